/- WHAT IS PROVED: the call of ClientCounts answers true, and leaves its arguments as they were, at every input that the given row takes. No condition of its own. -/
import Derived.Test.YtdoikghgblohjaaCounts3
import Derived.KernelRfl
import Derived.Test.YtdoikghgblohjaaChecked
/- U: turns of the telling alone; how loops, pieces and functions are told; laws. -/
namespace Go.Proofs.Ytdoikghgblohjaa.V

inductive Gh where
  | live (m : List Bool)
  | keep (ids : List Nat)
  | ownT (t : Nat) (fts : List FT)
  | ownC (o f : Nat) (fts : List FT)
  | fzT (t : Nat) (fts : List FT)
  | fzC (o f : Nat) (fts : List FT)
  | gc
  | ownP (t : Nat) (p : List Nat) (fts : List FT)
  | fzP (t : Nat) (p : List Nat) (fts : List FT)

def maskU : List Bool → UEnv → UEnv
  | true :: m, v :: e => v :: maskU m e
  | false :: m, _ :: e => .undef :: maskU m e
  | _ :: m, [] => .undef :: maskU m []
  | [], _ => []

def prefixN : Nat → Nat → List Nat → Bool
  | 0, _, _ => true
  | m + 1, i, a :: l => Nat.beq a i && prefixN m (i + 1) l
  | _ + 1, _, [] => false

def nthU : List UV → Nat → UV
  | [], _ => .undef
  | v :: _, 0 => v
  | _ :: l, n + 1 => nthU l n

def setU : List UV → Nat → UV → List UV
  | [], _, _ => []
  | _ :: l, 0, v => v :: l
  | x :: l, n + 1, v => x :: setU l n v

def atP : UV → List Nat → UV
  | v, [] => v
  | .agg cs, i :: p => atP (nthU cs i) p
  | .tuple cs, i :: p => atP (nthU cs i) p
  | _, _ :: _ => .undef

def setP : UV → List Nat → UV → UV
  | _, [], u => u
  | .agg cs, i :: p, u => .agg (setU cs i (setP (nthU cs i) p u))
  | .tuple cs, i :: p, u => .tuple (setU cs i (setP (nthU cs i) p u))
  | v, _ :: _, _ => v

def rangeUp : Nat → Nat → List Nat
  | 0, _ => []
  | n + 1, i => i :: rangeUp n (i + 1)

def refsOf (s : USt) : List Nat → List Nat
  | [] => []
  | o :: l => (s.get o).refs ++ refsOf s l

def gcIds (m : Nat) (e : UEnv) (s : USt) : List Nat := reach s 500 (refsOf s (rangeUp m 0) ++ UV.refsL e) (rangeUp m 0)

def gstep (m : Nat) : Gh → UEnv × USt → Option (UEnv × USt)
  | .live k, (e, s) => some (maskU k e, s)
  | .keep ids, (e, s) => match nodupN ids && allLt ids s.len && prefixN m 0 ids with
    | true => some (UV.picks ids e, s.pick ids ids)
    | false => none
  | .gc, (e, s) => match nodupN (gcIds m e s) && allLt (gcIds m e s) s.len && prefixN m 0 (gcIds m e s) with
    | true => some (UV.picks (gcIds m e s) e, s.pick (gcIds m e s) (gcIds m e s))
    | false => none
  | .ownT t fts, (e, s) => match e.get t with
    | .nilslice => some (e.set t (.own s.len), s.push (.row fts []))
    | _ => some (e, s)
  | .ownC o f fts, (e, s) => match s.get o with
    | .obj cs => match nthU cs f with
      | .nilslice => some (e, (s.push (.row fts [])).upd o (.obj (setU cs f (.own s.len))))
      | _ => some (e, s)
    | _ => some (e, s)
  | .fzT t fts, (e, s) => match e.get t with
    | .nilslice => some (e.set t (.fz fts [] false), s)
    | .fz fts' es _ => some (e.set t (.fz fts' es false), s)
    | .own o => match rowOf (s.get o) with
      | some (fts', es) => some (e.set t (.fz fts' es false), freeze1 s (.own o))
      | none => none
    | _ => some (e, s)
  | .fzC o f fts, (e, s) => match s.get o with
    | .obj cs => match nthU cs f with
      | .nilslice => some (e, s.upd o (.obj (setU cs f (.fz fts [] false))))
      | .fz fts' es _ => some (e, s.upd o (.obj (setU cs f (.fz fts' es false))))
      | .own p => match rowOf (s.get p) with
        | some (fts', es) => some (e, (freeze1 s (.own p)).upd o (.obj (setU cs f (.fz fts' es false))))
        | none => none
      | _ => some (e, s)
    | _ => some (e, s)
  | .ownP t p fts, (e, s) => match atP (e.get t) p with
    | .nilslice => some (e.set t (setP (e.get t) p (.own s.len)), s.push (.row fts []))
    | _ => some (e, s)
  | .fzP t p fts, (e, s) => match atP (e.get t) p with
    | .nilslice => some (e.set t (setP (e.get t) p (.fz fts [] false)), s)
    | .fz fts' es _ => some (e.set t (setP (e.get t) p (.fz fts' es false)), s)
    | .nn fts' es => some (e.set t (setP (e.get t) p (.fz fts' es false)), s)
    | .own o => match rowOf (s.get o) with
      | some (fts', es) => some (e.set t (setP (e.get t) p (.fz fts' es false)), freeze1 s (.own o))
      | none => none
    | _ => some (e, s)

def gsteps (m : Nat) : List Gh → UEnv × USt → Option (UEnv × USt)
  | [], q => some q
  | g :: gs, q => match gstep m g q with
    | some q => gsteps m gs q
    | none => none

section
variable {P : Program} {c : Cx} {h : VHeap} {s : USt}

theorem nthU_eq (l : List UV) (n : Nat) : nthU l n = l.getD n .undef := by
  induction l generalizing n with
  | nil => simp [nthU]
  | cons v l ih => cases n with
    | zero => simp [nthU]
    | succ n => simp [nthU, ih]

theorem setU_rel {g : VG} {us : List UV} {vs : List VV} (hr : RVs c g us vs) (n : Nat) {u : UV} (hu : ∀ v, vs[n]? = some v → RV c g u v) : RVs c g (setU us n u) vs := by
  induction us generalizing vs n with
  | nil => exact hr
  | cons x us ih =>
    have := hr.1
    match vs, this, hr with
    | v :: vs, _, hr =>
      cases n with
      | zero => exact RVs.cons (hu v rfl) hr.tail
      | succ n => exact RVs.cons hr.head (ih hr.tail n (fun w hw => hu w (by simpa using hw)))

theorem nth_rel {g : VG} {us : List UV} {vs : List VV} (hr : RVs c g us vs) {n : Nat} {v : VV} (hv : vs[n]? = some v) : RV c g (nthU us n) v := by
  rw [nthU_eq]
  have : n < us.length := by rw [hr.1]; exact (List.getElem?_eq_some_iff.1 hv).1
  rw [List.getD_eq_getElem?_getD, List.getElem?_eq_getElem this]
  exact hr.2 n _ v (List.getElem?_eq_getElem this) hv

theorem setU_len (l : List UV) (n : Nat) (u : UV) : (setU l n u).length = l.length := by
  induction l generalizing n with
  | nil => rfl
  | cons v l ih => cases n <;> simp [setU, ih]

theorem prefixN_get : ∀ (m i : Nat) (l : List Nat), prefixN m i l = true → m ≤ l.length ∧ ∀ j, j < m → l[j]? = some (i + j)
  | 0, _, _, _ => ⟨Nat.zero_le _, fun j hj => by omega⟩
  | m + 1, i, a :: l, h => by
    simp only [prefixN, Bool.and_eq_true] at h
    obtain ⟨h1, h2⟩ := prefixN_get m (i + 1) l h.2
    refine ⟨by simp; omega, fun j hj => ?_⟩
    cases j with
    | zero => simp [Nat.eq_of_beq_eq_true h.1]
    | succ j => simp only [List.getElem?_cons_succ]; rw [h2 j (by omega)]; congr 1; omega
  | m + 1, _, [], h => by simp [prefixN] at h

theorem pickM {m : Nat} {ids : List Nat} (hm : prefixN m 0 ids = true) : LaterM m c h (c.pick ids) h (fun _ => False) := by
  obtain ⟨h1, h2⟩ := prefixN_get m 0 ids hm
  refine ⟨h1, fun o ho => ?_, fun _ h => h, Nat.le_refl _, fun _ _ h _ => h, fun _ k h => ⟨k, h, rfl⟩, fun _ es h => ⟨es, h⟩, fun _ h => .inl h, fun o f hf => ?_⟩
  · have := h2 o ho
    rw [Nat.zero_add] at this
    exact Cx.pick_ρ this
  · obtain ⟨p, _, hp⟩ := Cx.pick_fams ⟨o, hf⟩
    exact .inr ⟨p, hp⟩

theorem get_picks (ids : List Nat) (e : UEnv) (t : Nat) : UEnv.get (UV.picks ids e) t = (UEnv.get e t).pick ids := by
  induction e generalizing t with
  | nil => simp [UV.picks, UEnv.get, UV.pick]
  | cons v e ih => cases t with
    | zero => simp [UV.picks, UEnv.get]
    | succ t => simp [UV.picks, UEnv.get, ih]

theorem get_mask : ∀ (k : List Bool) (e : UEnv) (t : Nat), UEnv.get (maskU k e) t = UEnv.get e t ∨ UEnv.get (maskU k e) t = .undef
  | [], e, t => by cases e <;> exact .inr (by simp [maskU, UEnv.get])
  | true :: k, [], 0 => .inr rfl
  | false :: k, [], 0 => .inr rfl
  | true :: k, [], t + 1 => by simpa [maskU, UEnv.get] using get_mask k [] t
  | false :: k, [], t + 1 => by simpa [maskU, UEnv.get] using get_mask k [] t
  | true :: k, v :: e, 0 => .inl rfl
  | false :: k, v :: e, 0 => .inr rfl
  | true :: k, v :: e, t + 1 => by simpa [maskU, UEnv.get] using get_mask k e t
  | false :: k, v :: e, t + 1 => by simpa [maskU, UEnv.get] using get_mask k e t

theorem LaterM.mono {m : Nat} {c' : Cx} {h' : VHeap} {T T1 : Nat → Prop} (hL : LaterM m c h c' h' T) (hT : ∀ f, T f → T1 f) : LaterM m c h c' h' T1 :=
  ⟨hL.n, hL.ρ, hL.K, hL.next, fun b o hb hn => hL.same b o hb (fun ht => hn (hT _ ht)), hL.fam, hL.mp, hL.newK, hL.newφ⟩

theorem REnv.set' {g : VG} {e : UEnv} {e' : Env} (he : REnv c g e e') (t : Nat) {u : UV} (hu : RV c g u (Env.get e' t)) : REnv c g (e.set t u) e' := by
  intro q
  rw [UEnv.get_set]
  split
  · rename_i hq; subst hq; exact hu
  · exact he q

/-- An empty row, told anew. -/
theorem addNil (hs : RSt c h s) (fts : List FT) (T : Nat → Prop) : RSt (c.add .nilslice none) h (s.push (.row fts [])) ∧ Later c h (c.add .nilslice none) h T ∧ RV (c.add .nilslice none) h.get (.own s.len) .nilslice := by
  refine ⟨hs.add hs.wf (Nat.le_refl _) (fun _ _ h => h) (fun f e => by cases e) (.rowNil fts), hs.laterAdd _ _ (Nat.le_refl _) (fun _ _ h => h) (fun f e => by cases e) T, .own _ _ ?_ ?_ (.inl rfl)⟩
  · show s.len < c.n + 1; rw [hs.len]; exact Nat.lt_succ_self _
  · show (if s.len = c.n then _ else _) = _; rw [if_pos hs.len]

theorem turn_cells (hs : RSt c h s) {o : Nat} {cs cs' : List UV} (ho : s.get o = .obj cs) (hl : cs'.length = cs.length) (hc : ∀ vs, RVs c h.get cs vs → RVs c h.get cs' vs) : RSt c h (s.upd o (.obj cs')) := by
  have hro := hs.obj o
  rw [ho] at hro
  generalize hv : c.ρ o = v at hro
  generalize hf : c.φ o = fm at hro
  cases hro with
  | obj _ b k xs hg hes hz hro hso hx hr =>
    refine hs.turn hf hs.wf (Later.refl _ _ _) ?_
    rw [hv]
    exact .obj cs' b k xs hg hes (by rw [hl]; exact hz) hro hso hx (hc xs hr)

theorem own_data (hs : RSt c h s) {p : Nat} {fts : List FT} {es : List (List D)} (hrow : rowOf (s.get p) = some (fts, es)) {v : VV} (hr : RV c h.get (.own p) v) :
    ∃ c1, RSt c1 h (freeze1 s (.own p)) ∧ Later c h c1 h (fun _ => False) ∧ RV c1 h.get (.fz fts es false) v := by
  obtain ⟨c1, s1, l1, n1, r1, p1, d1⟩ := freeze1_rel hs (.own p)
  exact ⟨c1, s1, l1, .fz fts es false v (d1 v hr (.row 0 fts) (.row es) (by simp only [toD, hrow, FT.sames_refl])) (fun e => by cases e)⟩

theorem setP_rel {c2 : Cx} {g g2 : VG} (hmono : ∀ {u : UV} {v : VV}, RV c g u v → RV c2 g2 u v) : ∀ (p : List Nat) {v : UV} {x : VV}, RV c g v x → ∃ y, RV c g (atP v p) y ∧ (atP v p ≠ .undef → ∀ u, RV c2 g2 u y → RV c2 g2 (setP v p u) x) := by
  intro p
  induction p with
  | nil => intro v x hr; exact ⟨x, hr, fun _ u hu => hu⟩
  | cons i p ih =>
    intro v x hr
    have lists : ∀ (cs : List UV) (vs : List VV), RVs c g cs vs → ∃ y, RV c g (atP (nthU cs i) p) y ∧ (atP (nthU cs i) p ≠ .undef → ∀ u, RV c2 g2 u y → RVs c2 g2 (setU cs i (setP (nthU cs i) p u)) vs) := by
      intro cs vs hl
      have hl2 : RVs c2 g2 cs vs := ⟨hl.1, fun j a b ha hb => hmono (hl.2 j a b ha hb)⟩
      cases hv : vs[i]? with
      | none =>
        have hn : nthU cs i = .undef := by
          rw [nthU_eq, List.getD_eq_getElem?_getD, List.getElem?_eq_none (by rw [hl.1]; exact List.getElem?_eq_none_iff.1 hv)]; rfl
        rw [hn]
        exact ⟨.nilptr, by cases p <;> exact .undef _, fun h => absurd (by cases p <;> rfl) h⟩
      | some w =>
        obtain ⟨y, y1, y2⟩ := ih (nth_rel hl hv)
        exact ⟨y, y1, fun hne u hu => setU_rel hl2 i (fun v' hv' => by rw [hv] at hv'; cases hv'; exact y2 hne u hu)⟩
    cases v with
    | agg cs =>
      cases hr with
      | agg _ vs hl hp =>
        obtain ⟨y, y1, y2⟩ := lists cs vs ⟨hl, hp⟩
        exact ⟨y, y1, fun hne u hu => RV.agg' (y2 hne u hu)⟩
    | tuple cs =>
      cases hr with
      | tuple _ vs hl hp =>
        obtain ⟨y, y1, y2⟩ := lists cs vs ⟨hl, hp⟩
        exact ⟨y, y1, fun hne u hu => RV.tuple' (y2 hne u hu)⟩
    | _ => exact ⟨.nilptr, .undef _, fun h => absurd rfl h⟩

theorem gstep_rel {m : Nat} {g : Gh} {e e2 : UEnv} {s2 : USt} {e' : Env} (hm : m ≤ c.n) (hs : RSt c h s) (he : REnv c h.get e e') (hg : gstep m g (e, s) = some (e2, s2)) : ∃ c2, RSt c2 h s2 ∧ REnv c2 h.get e2 e' ∧ LaterM m c h c2 h c.fams := by
  have base : ∃ c2, RSt c2 h s ∧ REnv c2 h.get e e' ∧ LaterM m c h c2 h c.fams := ⟨c, hs, he, LaterM.refl hm _ _⟩
  cases g with
  | live k =>
    simp only [gstep, Option.some.injEq, Prod.mk.injEq] at hg
    obtain ⟨rfl, rfl⟩ := hg
    refine ⟨c, hs, fun t => ?_, LaterM.refl hm _ _⟩
    rcases get_mask k e t with h1 | h1 <;> rw [h1]
    · exact he t
    · exact .undef _
  | keep ids =>
    simp only [gstep] at hg
    split at hg
    · rename_i hok
      simp only [Bool.and_eq_true] at hok
      simp only [Option.some.injEq, Prod.mk.injEq] at hg
      obtain ⟨rfl, rfl⟩ := hg
      exact ⟨c.pick ids, hs.pick (nodupN_iff hok.1.1), fun t => by rw [get_picks]; exact (he t).pick, (pickM hok.2).mono (fun _ h => h.elim)⟩
    · cases hg
  | gc =>
    simp only [gstep] at hg
    split at hg
    · rename_i hok
      simp only [Bool.and_eq_true] at hok
      simp only [Option.some.injEq, Prod.mk.injEq] at hg
      obtain ⟨rfl, rfl⟩ := hg
      exact ⟨c.pick _, hs.pick (nodupN_iff hok.1.1), fun t => by rw [get_picks]; exact (he t).pick, (pickM hok.2).mono (fun _ h => h.elim)⟩
    · cases hg
  | ownT t fts =>
    simp only [gstep] at hg
    split at hg
    · rename_i ht
      simp only [Option.some.injEq, Prod.mk.injEq] at hg
      obtain ⟨rfl, rfl⟩ := hg
      obtain ⟨a1, a2, a3⟩ := addNil hs fts (fun _ => False)
      refine ⟨_, a1, (he.later a2 (fun _ _ h => h)).set' t ?_, (a2.mono (fun _ h => h.elim)).toM hm⟩
      have := he t
      rw [ht] at this
      generalize Env.get e' t = v at this ⊢
      cases this
      exact a3
    · simp only [Option.some.injEq, Prod.mk.injEq] at hg; obtain ⟨rfl, rfl⟩ := hg; exact base
  | ownC o f fts =>
    simp only [gstep] at hg
    split at hg
    · rename_i cs hcs
      split at hg
      · rename_i hf
        simp only [Option.some.injEq, Prod.mk.injEq] at hg
        obtain ⟨rfl, rfl⟩ := hg
        obtain ⟨a1, a2, a3⟩ := addNil hs fts (fun _ => False)
        have hlt : o < s.len := USt.lt_len (by rw [hcs]; simp)
        have hget : (s.push (.row fts [])).get o = .obj cs := by rw [USt.get_push, if_neg (by omega)]; exact hcs
        refine ⟨_, turn_cells a1 hget (setU_len _ _ _) (fun vs hvs => ?_), he.later a2 (fun _ _ h => h), (a2.mono (fun _ h => h.elim)).toM hm⟩
        refine setU_rel hvs f (fun v hv => ?_)
        have := nth_rel hvs hv
        rw [hf] at this
        cases this
        exact a3
      · simp only [Option.some.injEq, Prod.mk.injEq] at hg; obtain ⟨rfl, rfl⟩ := hg; exact base
    · simp only [Option.some.injEq, Prod.mk.injEq] at hg; obtain ⟨rfl, rfl⟩ := hg; exact base
  | fzT t fts =>
    simp only [gstep] at hg
    split at hg
    · rename_i ht
      simp only [Option.some.injEq, Prod.mk.injEq] at hg
      obtain ⟨rfl, rfl⟩ := hg
      refine ⟨c, hs, he.set' t ?_, LaterM.refl hm _ _⟩
      have := he t
      rw [ht] at this
      generalize Env.get e' t = v at this ⊢
      cases this
      exact .fz fts [] false _ (.row0 0 fts) (fun e => by cases e)
    · rename_i fts' es cut ht
      simp only [Option.some.injEq, Prod.mk.injEq] at hg
      obtain ⟨rfl, rfl⟩ := hg
      refine ⟨c, hs, he.set' t ?_, LaterM.refl hm _ _⟩
      have := he t
      rw [ht] at this
      cases this with
      | fz _ _ _ _ hrd hc => exact .fz fts' es false _ hrd (fun e => by cases e)
    · rename_i o ht
      split at hg
      · rename_i fts' es hrow
        simp only [Option.some.injEq, Prod.mk.injEq] at hg
        obtain ⟨rfl, rfl⟩ := hg
        have := he t
        rw [ht] at this
        obtain ⟨c1, a1, a2, a3⟩ := own_data hs hrow this
        exact ⟨c1, a1, (he.later a2 (fun _ _ h => h)).set' t a3, (a2.mono (fun _ h => h.elim)).toM hm⟩
      · cases hg
    · simp only [Option.some.injEq, Prod.mk.injEq] at hg; obtain ⟨rfl, rfl⟩ := hg; exact base
  | fzC o f fts =>
    simp only [gstep] at hg
    split at hg
    · rename_i cs hcs
      split at hg
      · rename_i hf
        simp only [Option.some.injEq, Prod.mk.injEq] at hg
        obtain ⟨rfl, rfl⟩ := hg
        refine ⟨c, turn_cells hs hcs (setU_len _ _ _) (fun vs hvs => setU_rel hvs f (fun v hv => ?_)), he, LaterM.refl hm _ _⟩
        have := nth_rel hvs hv
        rw [hf] at this
        cases this
        exact .fz fts [] false _ (.row0 0 fts) (fun e => by cases e)
      · rename_i fts' es cut hf
        simp only [Option.some.injEq, Prod.mk.injEq] at hg
        obtain ⟨rfl, rfl⟩ := hg
        refine ⟨c, turn_cells hs hcs (setU_len _ _ _) (fun vs hvs => setU_rel hvs f (fun v hv => ?_)), he, LaterM.refl hm _ _⟩
        have := nth_rel hvs hv
        rw [hf] at this
        cases this with
        | fz _ _ _ _ hrd hc => exact .fz fts' es false _ hrd (fun e => by cases e)
      · rename_i p hf
        split at hg
        · rename_i fts' es hrow
          simp only [Option.some.injEq, Prod.mk.injEq] at hg
          obtain ⟨rfl, rfl⟩ := hg
          -- what lies there
          have hro := hs.obj o
          rw [hcs] at hro
          obtain ⟨c1, s1, l1, n1, r1, p1, d1⟩ := freeze1_rel hs (.own p)
          have hget : (freeze1 s (.own p)).get o = .obj cs := by
            by_cases hpo : p = o
            · subst hpo; rw [hcs] at hrow; cases hrow
            · rw [freeze1_get (by intro e; cases e; exact hpo rfl)]; exact hcs
          generalize hv : c.ρ o = v at hro
          generalize hfm : c.φ o = fm at hro
          cases hro with
          | obj _ b k xs hgb hes hz hrok hso hx hr =>
            refine ⟨c1, ?_, he.later l1 (fun _ _ h => h), (l1.mono (fun _ h => h.elim)).toM hm⟩
            have hro1 := s1.obj o
            rw [hget, r1, hv] at hro1
            generalize hfm1 : c1.φ o = fm1 at hro1
            cases hro1 with
            | obj _ _ k1 xs1 hgb1 hes1 hz1 hrok1 hso1 hx1 hr1 =>
              rw [hgb] at hgb1
              simp only [Option.some.injEq, VObj.cells.injEq] at hgb1
              subst hgb1
              rw [hes] at hes1
              simp only [List.cons.injEq, and_true] at hes1
              subst hes1
              refine s1.turn hfm1 s1.wf (Later.refl _ _ _) ?_
              rw [r1, hv]
              refine .obj _ b k xs hgb hes (by rw [setU_len]; exact hz) hrok hso hx (setU_rel hr1 f (fun w hw => ?_))
              have h2 := nth_rel hr hw
              rw [hf] at h2
              exact .fz fts' es false w (d1 w h2 (.row 0 fts') (.row es) (by simp only [toD, hrow, FT.sames_refl])) (fun e => by cases e)
        · cases hg
      · simp only [Option.some.injEq, Prod.mk.injEq] at hg; obtain ⟨rfl, rfl⟩ := hg; exact base
    · simp only [Option.some.injEq, Prod.mk.injEq] at hg; obtain ⟨rfl, rfl⟩ := hg; exact base
  | ownP t p fts =>
    simp only [gstep] at hg
    split at hg
    · rename_i ht
      simp only [Option.some.injEq, Prod.mk.injEq] at hg
      obtain ⟨rfl, rfl⟩ := hg
      obtain ⟨a1, a2, a3⟩ := addNil hs fts (fun _ => False)
      obtain ⟨y, y1, y2⟩ := setP_rel (g := h.get) (g2 := h.get) (fun hr => hr.later a2 (fun _ _ h => h)) p (he t)
      rw [ht] at y1 y2
      cases y1
      exact ⟨_, a1, (he.later a2 (fun _ _ h => h)).set' t (y2 (by simp) _ a3), (a2.mono (fun _ h => h.elim)).toM hm⟩
    · simp only [Option.some.injEq, Prod.mk.injEq] at hg; obtain ⟨rfl, rfl⟩ := hg; exact base
  | fzP t p fts =>
    simp only [gstep] at hg
    split at hg
    · rename_i ht
      simp only [Option.some.injEq, Prod.mk.injEq] at hg
      obtain ⟨rfl, rfl⟩ := hg
      obtain ⟨y, y1, y2⟩ := setP_rel (c2 := c) (g := h.get) (g2 := h.get) (fun hr => hr) p (he t)
      rw [ht] at y1 y2
      cases y1
      exact ⟨c, hs, he.set' t (y2 (by simp) _ (.fz fts [] false _ (.row0 0 fts) (fun e => by cases e))), LaterM.refl hm _ _⟩
    · rename_i fts' es cut ht
      simp only [Option.some.injEq, Prod.mk.injEq] at hg
      obtain ⟨rfl, rfl⟩ := hg
      obtain ⟨y, y1, y2⟩ := setP_rel (c2 := c) (g := h.get) (g2 := h.get) (fun hr => hr) p (he t)
      rw [ht] at y1 y2
      cases y1 with
      | fz _ _ _ _ hrd hc => exact ⟨c, hs, he.set' t (y2 (by simp) _ (.fz fts' es false _ hrd (fun e => by cases e))), LaterM.refl hm _ _⟩
    · rename_i fts' es ht
      simp only [Option.some.injEq, Prod.mk.injEq] at hg
      obtain ⟨rfl, rfl⟩ := hg
      obtain ⟨y, y1, y2⟩ := setP_rel (c2 := c) (g := h.get) (g2 := h.get) (fun hr => hr) p (he t)
      rw [ht] at y1 y2
      cases y1 with
      | nn _ _ _ hrd hv => exact ⟨c, hs, he.set' t (y2 (by simp) _ (.fz fts' es false _ hrd (fun e => by cases e))), LaterM.refl hm _ _⟩
    · rename_i o ht
      split at hg
      · rename_i fts' es hrow
        simp only [Option.some.injEq, Prod.mk.injEq] at hg
        obtain ⟨rfl, rfl⟩ := hg
        obtain ⟨c1, s1, l1, n1, r1, p1, d1⟩ := freeze1_rel hs (.own o)
        obtain ⟨y, y1, y2⟩ := setP_rel (g := h.get) (g2 := h.get) (fun hr => hr.later l1 (fun _ _ h => h)) p (he t)
        rw [ht] at y1 y2
        exact ⟨c1, s1, (he.later l1 (fun _ _ h => h)).set' t (y2 (by simp) _ (.fz fts' es false y (d1 y y1 (.row 0 fts') (.row es) (by simp only [toD, hrow, FT.sames_refl])) (fun e => by cases e))), (l1.mono (fun _ h => h.elim)).toM hm⟩
      · cases hg
    · simp only [Option.some.injEq, Prod.mk.injEq] at hg; obtain ⟨rfl, rfl⟩ := hg; exact base

theorem gsteps_rel {m : Nat} : ∀ {gs : List Gh} {c : Cx} {h : VHeap} {s : USt} {e e2 : UEnv} {s2 : USt} {e' : Env}, m ≤ c.n → RSt c h s → REnv c h.get e e' → gsteps m gs (e, s) = some (e2, s2) → ∃ c2, RSt c2 h s2 ∧ REnv c2 h.get e2 e' ∧ LaterM m c h c2 h c.fams
  | [], c, h, s, e, e2, s2, e', hm, hs, he, hg => by
    simp only [gsteps, Option.some.injEq, Prod.mk.injEq] at hg
    obtain ⟨rfl, rfl⟩ := hg
    exact ⟨c, hs, he, LaterM.refl hm _ _⟩
  | g :: gs, c, h, s, e, e2, s2, e', hm, hs, he, hg => by
    simp only [gsteps] at hg
    split at hg
    · rename_i q hq
      obtain ⟨e1, s1⟩ := q
      obtain ⟨c1, a1, a2, a3⟩ := gstep_rel hm hs he hq
      obtain ⟨c2, b1, b2, b3⟩ := gsteps_rel a3.n a1 a2 hg
      exact ⟨c2, b1, b2, a3.trans b3 hs.wf⟩
    · cases hg

/-! How a loop is told. -/
def loopBody : Option Code → Code
  | some (.loop b) => b
  | _ => .skip

/-- With ghost steps ahead. -/
def ghP (m : Nat) (gin : List Gh) (told : ToldP) : ToldP := fun R e s K => match gsteps m gin (e, s) with
  | some (e, s) => told R e s K
  | none => none

def ghK {R : Type} (m : Nat) (gout : List Gh) (K : VExit → UEnv → USt → Option R) : VExit → UEnv → USt → Option R := fun x e s => match gsteps m gout (e, s) with
  | some (e, s) => K x e s
  | none => none

/-- What comes behind a round. -/
def loopK {R : Type} (m : Nat) (gin gout : List Gh) (told : ToldP) (K : VExit → UEnv → USt → Option R) : VExit → UEnv → USt → Option R := fun x e s => match x with
  | .normal => ghP m gin told R e s K
  | x => ghK m gout K x e s

theorem ghP_sound {m : Nat} {gin : List Gh} {b : Code} {told : ToldP} (h : SoundP P m b told) : SoundP P m b (ghP m gin told) := by
  intro R e s K r hu c h' e' hm hs he
  unfold ghP at hu
  split at hu
  · rename_i e1 s1 hg
    obtain ⟨c1, a1, a2, a3⟩ := gsteps_rel hm hs he hg
    refine (h R e1 s1 K r hu c1 h' e' a3.n a1 a2).mono ?_
    rintro x e2 h2 ⟨u2, s2, c2, p1, p2, p3, p4⟩
    exact ⟨u2, s2, c2, p1, p2, a3.trans p3 hs.wf, p4⟩
  · cases hu

theorem loop_sound {F : FuncId → Option (Bool × ToldF)} (hF : SoundF' P F) {m : Nat} {gin gout : List Gh} {told : Nat → ToldP} {Pc : Nat → Option ToldP} {body : Code} (hPc : SoundPc P m body Pc) {k p : Nat} (hp : 1 ≤ p) (hat : codeAt body p = some (.loop (loopBody (codeAt body p))))
    (h0 : ∀ R e s K, told 0 R e s K = none)
    (hstep : ∀ n (R : Type) e s (K : VExit → UEnv → USt → Option R) r, told (n + 1) R e s K = some r → uexec P F k Pc (2 * p) (loopBody (codeAt body p)) e s (loopK m gin gout (told n) K) = some r) :
    ∀ n, SoundP P m (.loop (loopBody (codeAt body p))) (told n) := by
  have sub : codeAt body (2 * p) = some (loopBody (codeAt body p)) := codeAt_step hp hat false rfl
  intro n
  induction n with
  | zero => intro R e s K r hu; rw [h0] at hu; cases hu
  | succ n ih =>
    intro R e s K r hu c h e' hm hs he
    refine WP.loop1 ((exec_rel hF k R Pc m (2 * p) body _ e s _ r (hstep n R e s K r hu) (by omega) sub hPc c h e' hm hs he).mono ?_)
    rintro x e2 h2 ⟨u2, s2, c2, p1, p2, p3, p4⟩
    have back : ∀ {x : VExit}, x ≠ .normal → loopK m gin gout (told n) K x u2 s2 = some r → ∃ u1 s1 c1, RSt c1 h2 s1 ∧ REnv c1 h2.get u1 e2 ∧ LaterM m c h c1 h2 c.fams ∧ K x u1 s1 = some r := by
      intro x hx hk
      have hk : ghK m gout K x u2 s2 = some r := by cases x <;> first | exact absurd rfl hx | exact hk
      unfold ghK at hk
      split at hk
      · rename_i e3 s3 hg3
        obtain ⟨c3, b1, b2, b3⟩ := gsteps_rel p3.n p1 p2 hg3
        exact ⟨e3, s3, c3, b1, b2, p3.trans b3 hs.wf, hk⟩
      · cases hk
    cases x with
    | normal =>
      refine ((ghP_sound ih) R u2 s2 K r p4 c2 h2 e2 p3.n p1 p2).mono ?_
      rintro x e4 h4 ⟨u4, s4, c4, d1, d2, d3, d4⟩
      exact ⟨u4, s4, c4, d1, d2, p3.trans d3 hs.wf, d4⟩
    | exit i => exact back (by simp) p4
    | ret => exact back (by simp) p4

def pieceOf : Option Code → Code
  | some b => b
  | _ => .skip

theorem piece_sound {F : FuncId → Option (Bool × ToldF)} (hF : SoundF' P F) {m : Nat} {gout : List Gh} {told : ToldP} {Pc : Nat → Option ToldP} {body : Code} (hPc : SoundPc P m body Pc) {k p : Nat} (hp : 1 ≤ p) (hat : codeAt body p = some (pieceOf (codeAt body p)))
    (hstep : ∀ (R : Type) e s (K : VExit → UEnv → USt → Option R) r, told R e s K = some r → uexec P F k Pc p (pieceOf (codeAt body p)) e s (ghK m gout K) = some r) : SoundP P m (pieceOf (codeAt body p)) told := by
  intro R e s K r hu c h e' hm hs he
  refine (exec_rel hF k R Pc m p body _ e s _ r (hstep R e s K r hu) hp hat hPc c h e' hm hs he).mono ?_
  rintro x e2 h2 ⟨u2, s2, c2, p1, p2, p3, p4⟩
  unfold ghK at p4
  split at p4
  · rename_i e3 s3 hg3
    obtain ⟨c3, b1, b2, b3⟩ := gsteps_rel p3.n p1 p2 hg3
    exact ⟨e3, s3, c3, b1, b2, p3.trans b3 hs.wf, p4⟩
  · cases p4

def sameLen : List UV → List UV → Bool
  | [], [] => true
  | _ :: a, _ :: b => sameLen a b
  | _, _ => false

theorem sameLen_iff : ∀ {a b : List UV}, sameLen a b = true → a.length = b.length
  | [], [], _ => rfl
  | _ :: a, _ :: b, h => by simp only [sameLen] at h; simp [sameLen_iff h]
  | [], _ :: _, h => by cases h
  | _ :: _, [], h => by cases h

theorem REnv.args {g : VG} {us : List UV} {vs : List VV} (he : REnv c g us vs) (hl : us.length = vs.length) : RVs c g us vs := by
  refine ⟨hl, fun i u v hu hv => ?_⟩
  have h1 := he i
  have e1 : UEnv.get us i = u := by
    have key : ∀ (us : List UV) (t : Nat), UEnv.get us t = us.getD t .undef := by
      intro us
      induction us with
      | nil => intro t; simp [UEnv.get]
      | cons u us ih => intro t; cases t with
        | zero => simp [UEnv.get]
        | succ t => simp [UEnv.get, ih]
    rw [key, List.getD_eq_getElem?_getD, hu]; rfl
  have e2 : Env.get vs i = v := by simp [Env.get, List.getD_eq_getElem?_getD, hv]
  rw [e1, e2] at h1
  exact h1

/-- With ghost steps ahead. -/
def ghF (gin : List Gh) (told : ToldF) : ToldF := fun R args s K => match gsteps s.len gin (args, s) with
  | some (e, s) => match sameLen e args with
    | true => told R e s K
    | false => none
  | none => none

def funK {R : Type} (m : Nat) (gout : List Gh) (K : UV → USt → Option R) : UV → USt → Option R := fun v s => match gsteps m gout ([v], s) with
  | some ([v], s) => K v s
  | _ => none

theorem LaterM.less {m n : Nat} {c' : Cx} {h' : VHeap} {T : Nat → Prop} (hL : LaterM m c h c' h' T) (hn : n ≤ m) : LaterM n c h c' h' T :=
  ⟨Nat.le_trans hn hL.n, fun o ho => hL.ρ o (Nat.lt_of_lt_of_le ho hn), hL.K, hL.next, hL.same, hL.fam, hL.mp, hL.newK, hL.newφ⟩

theorem ghF_sound {gin : List Gh} {g : FuncId} {told : ToldF} (ht : Tells P g told) : Tells P g (ghF gin told) := by
  intro R args s K r hu c h vargs hs hr
  unfold ghF at hu
  split at hu
  · rename_i e0 s0 hg0
    obtain ⟨c0, a1, a2, a3⟩ := gsteps_rel (m := s.len) (by rw [hs.len]; exact Nat.le_refl _) hs (args_env hr) hg0
    split at hu
    · rename_i hsl
      have hr0 : RVs c0 h.get e0 vargs := a2.args (by rw [sameLen_iff hsl]; exact hr.1)
      refine (ht R e0 s0 K r hu c0 h vargs a1 hr0).mono ?_
      rintro v h' ⟨u, s1, c1, q1, q2, q3, q4⟩
      have h5 : LaterM s.len c h c1 h' c.fams := a3.trans ((q3.toM (Nat.le_refl _)).less a3.n) hs.wf
      rw [hs.len] at h5
      exact ⟨u, s1, c1, q1, q2, h5.full, q4⟩
    · cases hu
  · cases hu

theorem ufun_sound {T : Known} (hF : SoundF' P T.F) {m : Nat} {gout : List Gh} {told : ToldF} {g : FuncId} {k : Nat} (hPc : ∀ fn body, P.funcs[g]? = some fn → fn.body = some body → SoundPc P m body T.Pc) (hlen : ∀ (R : Type) args s (K : UV → USt → Option R) r, told R args s K = some r → s.len = m)
    (hstep : ∀ (R : Type) args s (K : UV → USt → Option R) r, told R args s K = some r → ufun P T k g args s (funK m gout K) = some r) : Tells P g told := by
  intro R args s K r hu c h vargs hs hr
  have hl := hlen _ _ _ _ _ hu
  refine (ufun_rel hF (hstep _ _ _ _ _ hu) (by rw [hl]; exact hPc) hs hr).mono ?_
  rintro v h' ⟨u, s1, c1, q1, q2, q3, q4⟩
  unfold funK at q4
  split at q4
  · rename_i w s2 hg
    have hm : m = c.n := by rw [← hl, hs.len]
    have he : REnv c1 h'.get [u] [v] := args_env (RVs.cons q2 (RVs.nil _ _))
    obtain ⟨c2, b1, b2, b3⟩ := gsteps_rel (m := m) (by rw [hm]; exact q3.n) q1 he hg
    have h3 : LaterM m c h c2 h' c.fams := (q3.toM (by rw [hm]; exact Nat.le_refl _)).trans b3 hs.wf
    exact ⟨w, s2, c2, b1, b2 0, by subst hm; exact h3.full, q4⟩
  · cases q4

/-- slices.Clone. -/
def toldClone (fts : List FT) (bytes : Nat) : ToldF := fun R args s K => match args, s with
  | [.fz fts' es _], [] => match FT.sames fts fts' with
    | true => cond (fits es.length bytes) (K (.own 0) [.row fts es]) none
    | false => none
  | [.nilslice], [] => K (.own 0) [.row fts []]
  | _, _ => none

theorem clone_tells {F : FuncId → Option (Bool × ToldF)} (hF : SoundF' P F) {g : FuncId} {fts : List FT} {bytes k : Nat} (h1 : ∀ (R : Type) (K : UV → USt → Option R), ufun P ⟨F, fun _ => none⟩ k g [.nilslice] [] K = K .nilslice [])
    (h2 : ∀ (R : Type) (K : UV → USt → Option R) (es : List (List D)), ufun P ⟨F, fun _ => none⟩ k g [.nn fts es] [] K = cond (fits (([] : List (List D)).length + es.length) bytes) (K (.own 1) [.gone, .row fts ([] ++ es)]) none) : Tells P g (toldClone fts bytes) := by
  have nilcase : ∀ {R : Type} {K : UV → USt → Option R} {r : R}, K (.own 0) [.row fts []] = some r → ∀ (c : Cx) (h : VHeap) v, RSt c h [] → v = .nilslice → VC P noX g [v] h fun v h' => ∃ u s1 c1, RSt c1 h' s1 ∧ RV c1 h'.get u v ∧ Later c h c1 h' c.fams ∧ K u s1 = some r := by
    intro R K r hK c h v hs hv
    subst hv
    have hr : RVs c h.get [.nilslice] [.nilslice] := RVs.cons .nilslice (RVs.nil _ _)
    have hu := h1 (UV × USt) (fun u s => some (u, s))
    refine (ufun_rel (T := ⟨F, fun _ => none⟩) hF hu (fun _ _ _ _ => SoundPc.none _ _ _) hs hr).mono ?_
    rintro v h' ⟨u, s1, c1, q1, q2, q3, q4⟩
    simp only [Option.some.injEq, Prod.mk.injEq] at q4
    obtain ⟨rfl, rfl⟩ := q4
    cases q2
    obtain ⟨a1, a2, a3⟩ := addNil q1 fts c1.fams
    exact ⟨.own 0, [.row fts []], _, a1, a3, q3.trans' a2 hs.wf, hK⟩
  intro R args s K r hu c h vargs hs hr
  unfold toldClone at hu
  split at hu
  · rename_i fts' es cut
    split at hu
    · rename_i hsame
      have := FT.sames_eq _ _ hsame; subst this
      obtain ⟨hf, hK⟩ := cond_some hu
      obtain ⟨v, rfl, hv⟩ := hr.inv1
      cases hv with
      | fz _ _ _ _ hrd hc =>
        cases v with
        | nilslice => cases hrd; exact nilcase hK c h _ hs rfl
        | slice b i n cp z =>
          have hr' : RVs c h.get [.nn fts es] [.slice b i n cp z] := RVs.cons (.nn fts es _ hrd ⟨b, i, n, cp, z, rfl⟩) (RVs.nil _ _)
          have hu2 := h2 (UV × USt) (fun u s => some (u, s)) es
          rw [List.nil_append, List.length_nil, Nat.zero_add, hf, cond_true] at hu2
          refine (ufun_rel (T := ⟨F, fun _ => none⟩) hF hu2 (fun _ _ _ _ => SoundPc.none _ _ _) hs hr').mono ?_
          rintro v h' ⟨u, s1, c1, q1, q2, q3, q4⟩
          simp only [Option.some.injEq, Prod.mk.injEq] at q4
          obtain ⟨rfl, rfl⟩ := q4
          have hp := q1.pick (ids := [1]) (by simp)
          have hv := q2.pick (ids := [1])
          have hL : LaterM 0 c1 h' (c1.pick [1]) h' (fun _ => False) := pickM rfl
          have hn : c.n = 0 := hs.len.symm
          have h3 : LaterM 0 c h (c1.pick [1]) h' c.fams := (q3.toM (Nat.zero_le _)).trans (hL.mono (fun _ h => h.elim)) hs.wf
          rw [← hn] at h3
          exact ⟨.own 0, [.row fts es], _, hp, hv, h3.full, hK⟩
        | _ => cases hrd
    · cases hu
  · obtain ⟨v, rfl, hv⟩ := hr.inv1
    cases hv
    exact nilcase hu c h _ hs rfl
  · cases hu

/-! Laws. -/
/-- Data as a call is handed it. -/
inductive WFD : FT → D → Prop
  | bool (b : Bool) : WFD .bool (.bool b)
  | int (k : IntKind) (n : Int) (h : (Lit.int k n).wf = true) : WFD (.int k) (.int n)
  | str (s : ByteArray) (h : s.size ≤ reachBytes) : WFD .str (.str s)
  | nil (bytes : Nat) (fts : List FT) : WFD (.row bytes fts) .nil
  | row (bytes : Nat) (fts : List FT) (rows : List (List D)) (hb : rows.length * bytes ≤ reachBytes) (hl : ∀ r ∈ rows, r.length = fts.length)
      (hr : ∀ r ∈ rows, ∀ (j : Nat) ft d, fts[j]? = some ft → r[j]? = some d → WFD ft d) : WFD (.row bytes fts) (.row rows)

structure WFDs (fts : List FT) (ds : List D) : Prop where
  len : ds.length = fts.length
  at_ : ∀ (j : Nat) ft d, fts[j]? = some ft → ds[j]? = some d → WFD ft d

theorem Has.wfd {g : VG} {ft : FT} {d : D} {v : VV} (h : Has g ft d v) : WFD ft d := by
  induction h with
  | bool b => exact .bool b
  | int k n h => exact .int k n h
  | str s h => exact .str s h
  | nil bytes fts => exact .nil bytes fts
  | row bytes fts rows b k hg hro hz h0 hlen hb hrl hr ih =>
    have key : ∀ r ∈ rows, ∃ (i : Nat) (cs : List VV), rows[i]? = some r ∧ k.es[i]? = some cs := fun r hm => by
      obtain ⟨i, hi⟩ := List.getElem?_of_mem hm
      have hlt : i < k.es.length := by rw [hlen]; exact (List.getElem?_eq_some_iff.1 hi).1
      exact ⟨i, k.es[i], hi, List.getElem?_eq_getElem hlt⟩
    refine .row bytes fts rows hb (fun r hm => ?_) (fun r hm j ft d hf hd => ?_)
    · obtain ⟨i, cs, h1, h2⟩ := key r hm
      exact (hrl i r cs h1 h2).1
    · obtain ⟨i, cs, h1, h2⟩ := key r hm
      have h3 := (hrl i r cs h1 h2).2
      have hj : j < cs.length := by rw [h3]; exact (List.getElem?_eq_some_iff.1 hf).1
      exact ih i r cs h1 h2 j ft d cs[j] hf hd (List.getElem?_eq_getElem hj)

theorem Has.rd {h : VHeap} (hs : Still h) {ft : FT} {d : D} {v : VV} (hh : Has h.get ft d v) : RD h.get (· < h.next) ft d v := by
  induction hh with
  | bool b => exact .bool b
  | int k n h => exact .int k n
  | str s h => exact .str s
  | nil bytes fts => exact .nil bytes fts
  | row bytes fts rows b k hg hro hz h0 hlen hb hrl hr ih =>
    refine .row bytes fts rows b 0 rows.length none fts.length k hg (hs.wf.fam b k hg) hz rfl h0 rfl (by omega) (fun cp e => by cases e) ?_ ?_
    · intro j r cs h1 h2
      rw [Nat.zero_add] at h2
      exact hrl j r cs h1 h2
    · intro j r cs h1 h2 m ft d v g1 g2 g3
      rw [Nat.zero_add] at h2
      exact ih j r cs h1 h2 m ft d v g1 g2 g3

def Cx.start (h : VHeap) : Cx := ⟨0, fun _ => .undef, (· < h.next), fun _ => none⟩

theorem RSt.start {h : VHeap} (hs : Still h) : RSt (Cx.start h) h [] :=
  ⟨hs.wf, rfl, fun o => .gone _ (by intro b i f e; cases e),
    (fun o o' f h => by cases h), (fun o f h => by cases h), (fun o f h => by cases h), fun f h => h, fun o _ => rfl⟩

/-- The arguments. -/
def argsU (P : Program) : List TypeId → List (List D) → List UV
  | t :: ts, ds :: dss => match flat P 20 t with
    | some fts => (ufrom P t (ofDs 0 fts ds)).getD .undef :: argsU P ts dss
    | none => []
  | _, _ => []

inductive WFArgs (P : Program) : List TypeId → List (List D) → Prop
  | nil : WFArgs P [] []
  | cons (t : TypeId) (ts : List TypeId) (fts : List FT) (ds : List D) (dss : List (List D)) (hf : flat P 20 t = some fts) (hd : WFDs fts ds) (hr : WFArgs P ts dss) : WFArgs P (t :: ts) (ds :: dss)

theorem args_rel {h : VHeap} (hs : Still h) {ts : List TypeId} {dss : List (List D)} {vs : List VV} (ha : HasArgs P h.get ts dss vs) : WFArgs P ts dss ∧ RVs (Cx.start h) h.get (argsU P ts dss) vs := by
  induction ha with
  | nil => exact ⟨.nil, RVs.nil _ _⟩
  | cons t ts fts ds dss xs v vs hf hx hv hr ih =>
    have hrdl : RDL h.get (Cx.start h).K fts ds xs := ⟨hx.len, hx.lenv, fun m ft d v a b e => (hx.at_ m ft d v a b e).rd hs⟩
    refine ⟨.cons t ts fts ds dss hf ⟨hx.len, fun j ft d a b => ?_⟩ ih.1, ?_⟩
    · have hj : j < xs.length := by rw [hx.lenv]; exact (List.getElem?_eq_some_iff.1 a).1
      exact (hx.at_ j ft d xs[j] a b (List.getElem?_eq_getElem hj)).wfd
    · simp only [argsU, hf]
      refine RVs.cons ?_ ih.2
      have h1 := ofDs_rel (c := Cx.start h) hrdl 0 fts.length (by omega)
      simp only [List.drop_zero, List.take_length] at h1
      rw [← hx.lenv, List.take_length] at h1
      cases hu : ufrom P t (ofDs 0 fts ds) with
      | none => exact .undef _
      | some u =>
        obtain ⟨w, w1, w2⟩ := ufrom_rel hu h1
        rw [hv] at w1
        simp only [Option.some.injEq] at w1
        subst w1
        exact w2

def boolK : UV → USt → Option Bool := fun v _ => match v with
  | .bool b => some b
  | _ => none

/-- FROM U TO THE LAW. -/
theorem law_of (hmix : P.follows .mixedOrders = true) (hdst : progDst P = true) {f : FuncId} {ts : List TypeId} (H : ∀ dss, WFArgs P ts dss → ∃ (T : Known) (k : Nat), SoundF' P T.F ∧ (∀ fn body, P.funcs[f]? = some fn → fn.body = some body → SoundPc P 0 body T.Pc) ∧ ufun P T k f (argsU P ts dss) [] boolK = some true) : Law P f ts := by
  intro h dss args hs hargs
  obtain ⟨hw, hr⟩ := args_rel hs hargs
  obtain ⟨T, k, hF, hPc, hu⟩ := H dss hw
  obtain ⟨n, v, h', hrun, u, s1, c1, q1, q2, q3, q4⟩ := ufun_rel hF hu hPc (RSt.start hs) hr
  refine ⟨h', ?_⟩
  have hv : v = .bool true := by
    unfold boolK at q4
    split at q4
    · simp only [Option.some.injEq] at q4; subst q4; cases q2; rfl
    · cases q4
  subst hv
  exact run_sound hmix hdst (X := noX) (fun f g hg => by cases hg) hrun

end
end Go.Proofs.Ytdoikghgblohjaa.V

/- U: from a told law to the law. -/
namespace Go.Proofs.Ytdoikghgblohjaa.V

theorem law_of_told {P : Program} (hmix : P.follows .mixedOrders = true) (hdst : progDst P = true) {f : FuncId} {ts : List TypeId} {told : ToldF} (ht : Tells P f told) (H : ∀ dss, WFArgs P ts dss → told Bool (argsU P ts dss) [] boolK = some true) : Law P f ts := by
  intro h dss args hs hargs
  obtain ⟨hw, hr⟩ := args_rel hs hargs
  obtain ⟨n, v, h', hrun, u, s1, c1, q1, q2, q3, q4⟩ := ht Bool (argsU P ts dss) [] boolK true (H dss hw) _ _ _ (RSt.start hs) hr
  refine ⟨h', ?_⟩
  have hv : v = .bool true := by
    unfold boolK at q4
    split at q4
    · simp only [Option.some.injEq] at q4; subst q4; cases q2; rfl
    · cases q4
  subst hv
  exact run_sound hmix hdst (X := noX) (fun f g hg => by cases hg) hrun

end Go.Proofs.Ytdoikghgblohjaa.V

/- Printed by ugen: slices.Clone[[]byte,byte] -/
namespace Go.Proofs.Ytdoikghgblohjaa.V
set_option maxRecDepth 100000

abbrev ft0 : List FT := [FT.int IntKind.u8]
abbrev ft1 : List FT := [FT.int IntKind.i64, FT.str]
abbrev ft2 : List FT := [FT.str]
abbrev ft3 : List FT := [FT.int IntKind.i64]
abbrev ft4 : List FT := [FT.int IntKind.i64, FT.int IntKind.i64, FT.str, FT.str, FT.str]
abbrev ft5 : List FT := [FT.int IntKind.i64, FT.int IntKind.i64, FT.int IntKind.i64, FT.str, FT.int IntKind.i64, FT.int IntKind.i64, FT.int IntKind.i64, FT.int IntKind.i64, FT.int IntKind.i64, FT.str, FT.bool, FT.str, FT.str, FT.str, FT.str, FT.row 16 [FT.str], FT.int IntKind.i64, FT.int IntKind.i64]
abbrev ft6 : List FT := [FT.int IntKind.i64, FT.row 8 [FT.int IntKind.i64], FT.row 64 [FT.int IntKind.i64, FT.int IntKind.i64, FT.str, FT.str, FT.str]]
abbrev ft7 : List FT := [FT.int IntKind.i64, FT.int IntKind.i64, FT.int IntKind.i64, FT.str, FT.int IntKind.i64, FT.int IntKind.i64, FT.int IntKind.i64, FT.int IntKind.i64, FT.int IntKind.i64, FT.str, FT.bool, FT.str, FT.str, FT.str, FT.str, FT.row 16 [FT.str], FT.int IntKind.i64, FT.int IntKind.i64, FT.int IntKind.i64, FT.int IntKind.i64, FT.bool, FT.int IntKind.i64, FT.row 8 [FT.int IntKind.i64], FT.row 64 [FT.int IntKind.i64, FT.int IntKind.i64, FT.str, FT.str, FT.str]]

noncomputable def c68 : Code := match Try.f68.body with | some c => c | none => .skip

theorem s68 (fu : Nat) : Tells Try.prog 68 (toldClone ft0 1) :=
  clone_tells (F := (fun _ => none)) (k := 300) (fun _ _ _ h => by cases h) (fun R K => by kernel_rfl) (fun R K es => by kernel_rfl)

noncomputable def tb68 (fu : Nat) : FuncId → Option (Bool × ToldF) := fun f => match Nat.beq f 68 with
  | true => some (false, ghF [.fzP 0 [] ft0] (toldClone ft0 1))
  | false => (fun _ => none) f
theorem tb68_sound (fu : Nat) : SoundF' Try.prog (tb68 fu) := by
  intro f own told h
  unfold tb68 at h
  split at h
  · rename_i hb
    cases h
    have := Nat.eq_of_beq_eq_true hb
    subst this
    exact ghF_sound (s68 fu)
  · exact (fun _ _ _ h => by cases h) f own told h

end Go.Proofs.Ytdoikghgblohjaa.V

/- Printed by ugen: slices.Clone[[]daisychain/entry.Entry,daisychain/entry.Entry] -/
namespace Go.Proofs.Ytdoikghgblohjaa.V
set_option maxRecDepth 100000


noncomputable def c77 : Code := match Try.f77.body with | some c => c | none => .skip

theorem s77 (fu : Nat) : Tells Try.prog 77 (toldClone ft1 24) :=
  clone_tells (F := (tb68 fu)) (k := 300) (tb68_sound fu) (fun R K => by kernel_rfl) (fun R K es => by kernel_rfl)

noncomputable def tb77 (fu : Nat) : FuncId → Option (Bool × ToldF) := fun f => match Nat.beq f 77 with
  | true => some (false, ghF [.fzP 0 [] ft1] (toldClone ft1 24))
  | false => (tb68 fu) f
theorem tb77_sound (fu : Nat) : SoundF' Try.prog (tb77 fu) := by
  intro f own told h
  unfold tb77 at h
  split at h
  · rename_i hb
    cases h
    have := Nat.eq_of_beq_eq_true hb
    subst this
    exact ghF_sound (s77 fu)
  · exact (tb68_sound fu) f own told h

end Go.Proofs.Ytdoikghgblohjaa.V

/- Printed by ugen: slices.Clone[[]string,string] -/
namespace Go.Proofs.Ytdoikghgblohjaa.V
set_option maxRecDepth 100000


noncomputable def c82 : Code := match Try.f82.body with | some c => c | none => .skip

theorem s82 (fu : Nat) : Tells Try.prog 82 (toldClone ft2 16) :=
  clone_tells (F := (tb77 fu)) (k := 300) (tb77_sound fu) (fun R K => by kernel_rfl) (fun R K es => by kernel_rfl)

noncomputable def tb82 (fu : Nat) : FuncId → Option (Bool × ToldF) := fun f => match Nat.beq f 82 with
  | true => some (false, ghF [.fzP 0 [] ft2] (toldClone ft2 16))
  | false => (tb77 fu) f
theorem tb82_sound (fu : Nat) : SoundF' Try.prog (tb82 fu) := by
  intro f own told h
  unfold tb82 at h
  split at h
  · rename_i hb
    cases h
    have := Nat.eq_of_beq_eq_true hb
    subst this
    exact ghF_sound (s82 fu)
  · exact (tb77_sound fu) f own told h

end Go.Proofs.Ytdoikghgblohjaa.V

/- Printed by ugen: slices.Clone[[]int,int] -/
namespace Go.Proofs.Ytdoikghgblohjaa.V
set_option maxRecDepth 100000


noncomputable def c83 : Code := match Try.f83.body with | some c => c | none => .skip

theorem s83 (fu : Nat) : Tells Try.prog 83 (toldClone ft3 8) :=
  clone_tells (F := (tb82 fu)) (k := 300) (tb82_sound fu) (fun R K => by kernel_rfl) (fun R K es => by kernel_rfl)

noncomputable def tb83 (fu : Nat) : FuncId → Option (Bool × ToldF) := fun f => match Nat.beq f 83 with
  | true => some (false, ghF [.fzP 0 [] ft3] (toldClone ft3 8))
  | false => (tb82 fu) f
theorem tb83_sound (fu : Nat) : SoundF' Try.prog (tb83 fu) := by
  intro f own told h
  unfold tb83 at h
  split at h
  · rename_i hb
    cases h
    have := Nat.eq_of_beq_eq_true hb
    subst this
    exact ghF_sound (s83 fu)
  · exact (tb82_sound fu) f own told h

end Go.Proofs.Ytdoikghgblohjaa.V

/- Printed by ugen: slices.Clone[[]daisychain/queue.Took,daisychain/queue.Took] -/
namespace Go.Proofs.Ytdoikghgblohjaa.V
set_option maxRecDepth 100000


noncomputable def c84 : Code := match Try.f84.body with | some c => c | none => .skip

theorem s84 (fu : Nat) : Tells Try.prog 84 (toldClone ft4 64) :=
  clone_tells (F := (tb83 fu)) (k := 300) (tb83_sound fu) (fun R K => by kernel_rfl) (fun R K es => by kernel_rfl)

noncomputable def tb84 (fu : Nat) : FuncId → Option (Bool × ToldF) := fun f => match Nat.beq f 84 with
  | true => some (false, ghF [.fzP 0 [] ft4] (toldClone ft4 64))
  | false => (tb83 fu) f
theorem tb84_sound (fu : Nat) : SoundF' Try.prog (tb84 fu) := by
  intro f own told h
  unfold tb84 at h
  split at h
  · rename_i hb
    cases h
    have := Nat.eq_of_beq_eq_true hb
    subst this
    exact ghF_sound (s84 fu)
  · exact (tb83_sound fu) f own told h

end Go.Proofs.Ytdoikghgblohjaa.V

/- Printed by ugen: daisychain/client.apart[string] -/
namespace Go.Proofs.Ytdoikghgblohjaa.V
set_option maxRecDepth 100000


noncomputable def c78 : Code := match Try.f78.body with | some c => c | none => .skip

noncomputable def F78 {R : Type} (fu : Nat) (l : List (List D)) (k0 : Option R) : Option R :=
  bif fits l.length 16 then (k0) else none

noncomputable def pc78 (fu : Nat) : Nat → Option ToldP := fun _ => none
noncomputable def t78 (fu : Nat) : ToldF := fun _ args s K => match args, s with
  | [.fz zq0 l false], [] => (match FT.sames zq0 ft2 with | true => F78 fu l (K (.own 0) [.row ft2 (l)]) | false => none)
  | _, _ => none

theorem e78 (R : Type) (K : UV → USt → Option R) (fu : Nat) (l : List (List D)) :
    F78 fu l (K (.own 0) [.row ft2 (l)]) = ufun Try.prog ⟨(tb84 fu), pc78 fu⟩ 300 78 [.fz ft2 l false] [] (funK 0 [.gc] K) := by kernel_rfl

theorem s78 (fu : Nat) : Tells Try.prog 78 (t78 fu) := by
  refine ufun_sound (T := ⟨(tb84 fu), pc78 fu⟩) (m := 0) (gout := [.gc]) (k := 300) (tb84_sound fu) (fun fn body hf hb => ?_) (fun R args s K r h => ?_) (fun R args s K r h => ?_)
  · have hc : body = c78 := by
      have h1 : Try.prog.funcs[78]? = some Try.f78 := rfl
      rw [h1] at hf; cases hf
      have h2 : Try.f78.body = some c78 := rfl
      rw [h2] at hb; cases hb; rfl
    subst hc
    exact SoundPc.none _ _ _
  · unfold t78 at h; split at h
    · rfl
    · cases h
  · unfold t78 at h; split at h
    case h_2 => cases h
    split at h
    case h_2 => cases h
    rename_i hq
    have hq := FT.sames_eq _ _ hq
    subst hq
    exact (e78 R K fu _).symm.trans h

noncomputable def tb78 (fu : Nat) : FuncId → Option (Bool × ToldF) := fun f => match Nat.beq f 78 with
  | true => some (false, ghF [.fzP 0 [] ft2] (t78 fu))
  | false => (tb84 fu) f
theorem tb78_sound (fu : Nat) : SoundF' Try.prog (tb78 fu) := by
  intro f own told h
  unfold tb78 at h
  split at h
  · rename_i hb
    cases h
    have := Nat.eq_of_beq_eq_true hb
    subst this
    exact ghF_sound (s78 fu)
  · exact (tb84_sound fu) f own told h

end Go.Proofs.Ytdoikghgblohjaa.V

/- Printed by ugen: daisychain/client.apart[int] -/
namespace Go.Proofs.Ytdoikghgblohjaa.V
set_option maxRecDepth 100000


noncomputable def c79 : Code := match Try.f79.body with | some c => c | none => .skip

noncomputable def F79 {R : Type} (fu : Nat) (l : List (List D)) (k0 : Option R) : Option R :=
  bif fits l.length 8 then (k0) else none

noncomputable def pc79 (fu : Nat) : Nat → Option ToldP := fun _ => none
noncomputable def t79 (fu : Nat) : ToldF := fun _ args s K => match args, s with
  | [.fz zq0 l false], [] => (match FT.sames zq0 ft3 with | true => F79 fu l (K (.own 0) [.row ft3 (l)]) | false => none)
  | _, _ => none

theorem e79 (R : Type) (K : UV → USt → Option R) (fu : Nat) (l : List (List D)) :
    F79 fu l (K (.own 0) [.row ft3 (l)]) = ufun Try.prog ⟨(tb78 fu), pc79 fu⟩ 300 79 [.fz ft3 l false] [] (funK 0 [.gc] K) := by kernel_rfl

theorem s79 (fu : Nat) : Tells Try.prog 79 (t79 fu) := by
  refine ufun_sound (T := ⟨(tb78 fu), pc79 fu⟩) (m := 0) (gout := [.gc]) (k := 300) (tb78_sound fu) (fun fn body hf hb => ?_) (fun R args s K r h => ?_) (fun R args s K r h => ?_)
  · have hc : body = c79 := by
      have h1 : Try.prog.funcs[79]? = some Try.f79 := rfl
      rw [h1] at hf; cases hf
      have h2 : Try.f79.body = some c79 := rfl
      rw [h2] at hb; cases hb; rfl
    subst hc
    exact SoundPc.none _ _ _
  · unfold t79 at h; split at h
    · rfl
    · cases h
  · unfold t79 at h; split at h
    case h_2 => cases h
    split at h
    case h_2 => cases h
    rename_i hq
    have hq := FT.sames_eq _ _ hq
    subst hq
    exact (e79 R K fu _).symm.trans h

noncomputable def tb79 (fu : Nat) : FuncId → Option (Bool × ToldF) := fun f => match Nat.beq f 79 with
  | true => some (false, ghF [.fzP 0 [] ft3] (t79 fu))
  | false => (tb78 fu) f
theorem tb79_sound (fu : Nat) : SoundF' Try.prog (tb79 fu) := by
  intro f own told h
  unfold tb79 at h
  split at h
  · rename_i hb
    cases h
    have := Nat.eq_of_beq_eq_true hb
    subst this
    exact ghF_sound (s79 fu)
  · exact (tb78_sound fu) f own told h

end Go.Proofs.Ytdoikghgblohjaa.V

/- Printed by ugen: daisychain/client.apart[daisychain/queue.Took] -/
namespace Go.Proofs.Ytdoikghgblohjaa.V
set_option maxRecDepth 100000


noncomputable def c80 : Code := match Try.f80.body with | some c => c | none => .skip

noncomputable def F80 {R : Type} (fu : Nat) (l : List (List D)) (k0 : Option R) : Option R :=
  bif fits l.length 64 then (k0) else none

noncomputable def pc80 (fu : Nat) : Nat → Option ToldP := fun _ => none
noncomputable def t80 (fu : Nat) : ToldF := fun _ args s K => match args, s with
  | [.fz zq0 l false], [] => (match FT.sames zq0 ft4 with | true => F80 fu l (K (.own 0) [.row ft4 (l)]) | false => none)
  | _, _ => none

theorem e80 (R : Type) (K : UV → USt → Option R) (fu : Nat) (l : List (List D)) :
    F80 fu l (K (.own 0) [.row ft4 (l)]) = ufun Try.prog ⟨(tb79 fu), pc80 fu⟩ 300 80 [.fz ft4 l false] [] (funK 0 [.gc] K) := by kernel_rfl

theorem s80 (fu : Nat) : Tells Try.prog 80 (t80 fu) := by
  refine ufun_sound (T := ⟨(tb79 fu), pc80 fu⟩) (m := 0) (gout := [.gc]) (k := 300) (tb79_sound fu) (fun fn body hf hb => ?_) (fun R args s K r h => ?_) (fun R args s K r h => ?_)
  · have hc : body = c80 := by
      have h1 : Try.prog.funcs[80]? = some Try.f80 := rfl
      rw [h1] at hf; cases hf
      have h2 : Try.f80.body = some c80 := rfl
      rw [h2] at hb; cases hb; rfl
    subst hc
    exact SoundPc.none _ _ _
  · unfold t80 at h; split at h
    · rfl
    · cases h
  · unfold t80 at h; split at h
    case h_2 => cases h
    split at h
    case h_2 => cases h
    rename_i hq
    have hq := FT.sames_eq _ _ hq
    subst hq
    exact (e80 R K fu _).symm.trans h

noncomputable def tb80 (fu : Nat) : FuncId → Option (Bool × ToldF) := fun f => match Nat.beq f 80 with
  | true => some (false, ghF [.fzP 0 [] ft4] (t80 fu))
  | false => (tb79 fu) f
theorem tb80_sound (fu : Nat) : SoundF' Try.prog (tb80 fu) := by
  intro f own told h
  unfold tb80 at h
  split at h
  · rename_i hb
    cases h
    have := Nat.eq_of_beq_eq_true hb
    subst this
    exact ghF_sound (s80 fu)
  · exact (tb79_sound fu) f own told h

end Go.Proofs.Ytdoikghgblohjaa.V

/- Printed by ugen: daisychain/client.owned -/
namespace Go.Proofs.Ytdoikghgblohjaa.V
set_option maxRecDepth 100000


noncomputable def c62 : Code := match Try.f62.body with | some c => c | none => .skip

noncomputable def F62 {R : Type} (fu : Nat) (x : List D) (k0 : (List D) → Option R) : Option R :=
  F78 fu (cell 15 x).toRows ((k0 x))

noncomputable def pc62 (fu : Nat) : Nat → Option ToldP := fun _ => none
noncomputable def t62 (fu : Nat) : ToldF := fun _ args s K => match args, s with
  | [.agg [.int .i64 q, .int .i64 q1, .int .i64 q2, .str q3, .int .i64 q4, .int .i64 q5, .int .i64 q6, .int .i64 q7, .int .i64 q8, .str q9, .bool q10, .str q11, .str q12, .str q13, .str q14, .fz zq0 q15 false, .int .i64 q16, .int .i64 q17]], [] => (match FT.sames zq0 ft2 with | true => F62 fu [D.int q, D.int q1, D.int q2, D.str q3, D.int q4, D.int q5, D.int q6, D.int q7, D.int q8, D.str q9, D.bool q10, D.str q11, D.str q12, D.str q13, D.str q14, D.row q15, D.int q16, D.int q17] (fun o => K (.agg (ofDs 0 ft5 o)) []) | false => none)
  | _, _ => none

theorem e62 (R : Type) (K : UV → USt → Option R) (fu : Nat) (q : Int) (q1 : Int) (q2 : Int) (q3 : ByteArray) (q4 : Int) (q5 : Int) (q6 : Int) (q7 : Int) (q8 : Int) (q9 : ByteArray) (q10 : Bool) (q11 : ByteArray) (q12 : ByteArray) (q13 : ByteArray) (q14 : ByteArray) (q15 : List (List D)) (q16 : Int) (q17 : Int) :
    F62 fu [D.int q, D.int q1, D.int q2, D.str q3, D.int q4, D.int q5, D.int q6, D.int q7, D.int q8, D.str q9, D.bool q10, D.str q11, D.str q12, D.str q13, D.str q14, D.row q15, D.int q16, D.int q17] (fun o => K (.agg (ofDs 0 ft5 o)) []) = ufun Try.prog ⟨(tb80 fu), pc62 fu⟩ 300 62 [.agg [.int .i64 q, .int .i64 q1, .int .i64 q2, .str q3, .int .i64 q4, .int .i64 q5, .int .i64 q6, .int .i64 q7, .int .i64 q8, .str q9, .bool q10, .str q11, .str q12, .str q13, .str q14, .fz ft2 q15 false, .int .i64 q16, .int .i64 q17]] [] (funK 0 [.fzP 0 [15] ft2, .gc] K) := by kernel_rfl

theorem s62 (fu : Nat) : Tells Try.prog 62 (t62 fu) := by
  refine ufun_sound (T := ⟨(tb80 fu), pc62 fu⟩) (m := 0) (gout := [.fzP 0 [15] ft2, .gc]) (k := 300) (tb80_sound fu) (fun fn body hf hb => ?_) (fun R args s K r h => ?_) (fun R args s K r h => ?_)
  · have hc : body = c62 := by
      have h1 : Try.prog.funcs[62]? = some Try.f62 := rfl
      rw [h1] at hf; cases hf
      have h2 : Try.f62.body = some c62 := rfl
      rw [h2] at hb; cases hb; rfl
    subst hc
    exact SoundPc.none _ _ _
  · unfold t62 at h; split at h
    · rfl
    · cases h
  · unfold t62 at h; split at h
    case h_2 => cases h
    split at h
    case h_2 => cases h
    rename_i hq
    have hq := FT.sames_eq _ _ hq
    subst hq
    exact (e62 R K fu _ _ _ _ _ _ _ _ _ _ _ _ _ _ _ _ _ _).symm.trans h

noncomputable def tb62 (fu : Nat) : FuncId → Option (Bool × ToldF) := fun f => match Nat.beq f 62 with
  | true => some (false, ghF [.fzP 0 [15] ft2] (t62 fu))
  | false => (tb80 fu) f
theorem tb62_sound (fu : Nat) : SoundF' Try.prog (tb62 fu) := by
  intro f own told h
  unfold tb62 at h
  split at h
  · rename_i hb
    cases h
    have := Nat.eq_of_beq_eq_true hb
    subst this
    exact ghF_sound (s62 fu)
  · exact (tb80_sound fu) f own told h

end Go.Proofs.Ytdoikghgblohjaa.V

/- Printed by ugen: daisychain/client.told -/
namespace Go.Proofs.Ytdoikghgblohjaa.V
set_option maxRecDepth 100000


noncomputable def c63 : Code := match Try.f63.body with | some c => c | none => .skip

noncomputable def F63 {R : Type} (fu : Nat) (a : List D) (k0 : (List D) → Option R) : Option R :=
  F79 fu (cell 1 a).toRows (F80 fu (cell 2 a).toRows ((k0 a)))

noncomputable def pc63 (fu : Nat) : Nat → Option ToldP := fun _ => none
noncomputable def t63 (fu : Nat) : ToldF := fun _ args s K => match args, s with
  | [.agg [.int .i64 q, .fz zq0 q1 false, .fz zq1 q2 false]], [] => (match FT.sames zq0 ft3 with | true => (match FT.sames zq1 ft4 with | true => F63 fu [D.int q, D.row q1, D.row q2] (fun o => K (.agg (ofDs 0 ft6 o)) []) | false => none) | false => none)
  | _, _ => none

theorem e63 (R : Type) (K : UV → USt → Option R) (fu : Nat) (q : Int) (q1 : List (List D)) (q2 : List (List D)) :
    F63 fu [D.int q, D.row q1, D.row q2] (fun o => K (.agg (ofDs 0 ft6 o)) []) = ufun Try.prog ⟨(tb62 fu), pc63 fu⟩ 300 63 [.agg [.int .i64 q, .fz ft3 q1 false, .fz ft4 q2 false]] [] (funK 0 [.fzP 0 [1] ft3, .fzP 0 [2] ft4, .gc] K) := by kernel_rfl

theorem s63 (fu : Nat) : Tells Try.prog 63 (t63 fu) := by
  refine ufun_sound (T := ⟨(tb62 fu), pc63 fu⟩) (m := 0) (gout := [.fzP 0 [1] ft3, .fzP 0 [2] ft4, .gc]) (k := 300) (tb62_sound fu) (fun fn body hf hb => ?_) (fun R args s K r h => ?_) (fun R args s K r h => ?_)
  · have hc : body = c63 := by
      have h1 : Try.prog.funcs[63]? = some Try.f63 := rfl
      rw [h1] at hf; cases hf
      have h2 : Try.f63.body = some c63 := rfl
      rw [h2] at hb; cases hb; rfl
    subst hc
    exact SoundPc.none _ _ _
  · unfold t63 at h; split at h
    · rfl
    · cases h
  · unfold t63 at h; split at h
    case h_2 => cases h
    split at h
    case h_2 => cases h
    rename_i hq
    have hq := FT.sames_eq _ _ hq
    subst hq
    split at h
    case h_2 => cases h
    rename_i hq
    have hq := FT.sames_eq _ _ hq
    subst hq
    exact (e63 R K fu _ _ _).symm.trans h

noncomputable def tb63 (fu : Nat) : FuncId → Option (Bool × ToldF) := fun f => match Nat.beq f 63 with
  | true => some (false, ghF [.fzP 0 [1] ft3, .fzP 0 [2] ft4] (t63 fu))
  | false => (tb62 fu) f
theorem tb63_sound (fu : Nat) : SoundF' Try.prog (tb63 fu) := by
  intro f own told h
  unfold tb63 at h
  split at h
  · rename_i hb
    cases h
    have := Nat.eq_of_beq_eq_true hb
    subst this
    exact ghF_sound (s63 fu)
  · exact (tb62_sound fu) f own told h

end Go.Proofs.Ytdoikghgblohjaa.V

/- Printed by ugen: daisychain/client.New -/
namespace Go.Proofs.Ytdoikghgblohjaa.V
set_option maxRecDepth 100000


noncomputable def c17 : Code := match Try.f17.body with | some c => c | none => .skip

noncomputable def F17 {R : Type} (fu : Nat) (id : Int) (k0 : Option R) (k1 : Option R) : Option R :=
  bif decide (id < 1) then (k0) else bif decide (60 < id) then (k0) else (k1)

noncomputable def pc17 (fu : Nat) : Nat → Option ToldP := fun _ => none
noncomputable def t17 (fu : Nat) : ToldF := fun _ args s K => match args, s with
  | [.int .i64 id], [] => F17 fu id (K (.nilptr) []) (K (.ptr 0 0) [.obj [.int .i64 (id), .own 1, .bool (false)], .row ft7 ([])])
  | _, _ => none

theorem e17 (R : Type) (K : UV → USt → Option R) (fu : Nat) (id : Int) :
    F17 fu id (K (.nilptr) []) (K (.ptr 0 0) [.obj [.int .i64 (id), .own 1, .bool (false)], .row ft7 ([])]) = ufun Try.prog ⟨(tb63 fu), pc17 fu⟩ 300 17 [.int .i64 id] [] (funK 0 [.gc, .ownC 0 1 ft7, .gc] K) := by kernel_rfl

theorem s17 (fu : Nat) : Tells Try.prog 17 (t17 fu) := by
  refine ufun_sound (T := ⟨(tb63 fu), pc17 fu⟩) (m := 0) (gout := [.gc, .ownC 0 1 ft7, .gc]) (k := 300) (tb63_sound fu) (fun fn body hf hb => ?_) (fun R args s K r h => ?_) (fun R args s K r h => ?_)
  · have hc : body = c17 := by
      have h1 : Try.prog.funcs[17]? = some Try.f17 := rfl
      rw [h1] at hf; cases hf
      have h2 : Try.f17.body = some c17 := rfl
      rw [h2] at hb; cases hb; rfl
    subst hc
    exact SoundPc.none _ _ _
  · unfold t17 at h; split at h
    · rfl
    · cases h
  · unfold t17 at h; split at h
    case h_2 => cases h
    exact (e17 R K fu _).symm.trans h

noncomputable def tb17 (fu : Nat) : FuncId → Option (Bool × ToldF) := fun f => match Nat.beq f 17 with
  | true => some (false, ghF [] (t17 fu))
  | false => (tb63 fu) f
theorem tb17_sound (fu : Nat) : SoundF' Try.prog (tb17 fu) := by
  intro f own told h
  unfold tb17 at h
  split at h
  · rename_i hb
    cases h
    have := Nat.eq_of_beq_eq_true hb
    subst this
    exact ghF_sound (s17 fu)
  · exact (tb63_sound fu) f own told h

end Go.Proofs.Ytdoikghgblohjaa.V

/- Printed by ugen: (*daisychain/client.Client).Id -/
namespace Go.Proofs.Ytdoikghgblohjaa.V
set_option maxRecDepth 100000


noncomputable def c29 : Code := match Try.f29.body with | some c => c | none => .skip

noncomputable def F29 {R : Type} (fu : Nat) (c_id : Int) (c_l : List (List D)) (c_open : Bool) (k0 : Option R) : Option R :=
  (k0)

noncomputable def pc29 (fu : Nat) : Nat → Option ToldP := fun _ => none
noncomputable def t29 (fu : Nat) : ToldF := fun _ args s K => match args, s with
  | [.ptr 0 0], [.obj [.int .i64 c_id, .own 1, .bool c_open], .row zq0 c_l] => (match FT.sames zq0 ft7 with | true => F29 fu c_id c_l c_open (K (.int .i64 (c_id)) [.obj [.int .i64 (c_id), .own 1, .bool (c_open)], .row ft7 (c_l)]) | false => none)
  | _, _ => none

theorem e29 (R : Type) (K : UV → USt → Option R) (fu : Nat) (c_id : Int) (c_l : List (List D)) (c_open : Bool) :
    F29 fu c_id c_l c_open (K (.int .i64 (c_id)) [.obj [.int .i64 (c_id), .own 1, .bool (c_open)], .row ft7 (c_l)]) = ufun Try.prog ⟨(tb17 fu), pc29 fu⟩ 300 29 [.ptr 0 0] [.obj [.int .i64 c_id, .own 1, .bool c_open], .row ft7 c_l] (funK 2 [.gc, .ownC 0 1 ft7, .gc] K) := by kernel_rfl

theorem s29 (fu : Nat) : Tells Try.prog 29 (t29 fu) := by
  refine ufun_sound (T := ⟨(tb17 fu), pc29 fu⟩) (m := 2) (gout := [.gc, .ownC 0 1 ft7, .gc]) (k := 300) (tb17_sound fu) (fun fn body hf hb => ?_) (fun R args s K r h => ?_) (fun R args s K r h => ?_)
  · have hc : body = c29 := by
      have h1 : Try.prog.funcs[29]? = some Try.f29 := rfl
      rw [h1] at hf; cases hf
      have h2 : Try.f29.body = some c29 := rfl
      rw [h2] at hb; cases hb; rfl
    subst hc
    exact SoundPc.none _ _ _
  · unfold t29 at h; split at h
    · rfl
    · cases h
  · unfold t29 at h; split at h
    case h_2 => cases h
    split at h
    case h_2 => cases h
    rename_i hq
    have hq := FT.sames_eq _ _ hq
    subst hq
    exact (e29 R K fu _ _ _).symm.trans h

noncomputable def tb29 (fu : Nat) : FuncId → Option (Bool × ToldF) := fun f => match Nat.beq f 29 with
  | true => some (false, ghF [.gc, .ownC 0 1 ft7, .gc] (t29 fu))
  | false => (tb17 fu) f
theorem tb29_sound (fu : Nat) : SoundF' Try.prog (tb29 fu) := by
  intro f own told h
  unfold tb29 at h
  split at h
  · rename_i hb
    cases h
    have := Nat.eq_of_beq_eq_true hb
    subst this
    exact ghF_sound (s29 fu)
  · exact (tb17_sound fu) f own told h

end Go.Proofs.Ytdoikghgblohjaa.V

/- Printed by ugen: (*daisychain/client.Client).GiveUp -/
namespace Go.Proofs.Ytdoikghgblohjaa.V
set_option maxRecDepth 100000


noncomputable def c24 : Code := match Try.f24.body with | some c => c | none => .skip

noncomputable def F24 {R : Type} (fu : Nat) (c_id : Int) (c_l : List (List D)) (c_open : Bool) (k0 : Option R) : Option R :=
  (k0)

noncomputable def pc24 (fu : Nat) : Nat → Option ToldP := fun _ => none
noncomputable def t24 (fu : Nat) : ToldF := fun _ args s K => match args, s with
  | [.ptr 0 0], [.obj [.int .i64 c_id, .own 1, .bool c_open], .row zq0 c_l] => (match FT.sames zq0 ft7 with | true => F24 fu c_id c_l c_open (K (.bool (c_open)) [.obj [.int .i64 (c_id), .own 1, .bool (false)], .row ft7 (c_l)]) | false => none)
  | _, _ => none

theorem e24 (R : Type) (K : UV → USt → Option R) (fu : Nat) (c_id : Int) (c_l : List (List D)) (c_open : Bool) :
    F24 fu c_id c_l c_open (K (.bool (c_open)) [.obj [.int .i64 (c_id), .own 1, .bool (false)], .row ft7 (c_l)]) = ufun Try.prog ⟨(tb29 fu), pc24 fu⟩ 300 24 [.ptr 0 0] [.obj [.int .i64 c_id, .own 1, .bool c_open], .row ft7 c_l] (funK 2 [.gc, .ownC 0 1 ft7, .gc] K) := by kernel_rfl

theorem s24 (fu : Nat) : Tells Try.prog 24 (t24 fu) := by
  refine ufun_sound (T := ⟨(tb29 fu), pc24 fu⟩) (m := 2) (gout := [.gc, .ownC 0 1 ft7, .gc]) (k := 300) (tb29_sound fu) (fun fn body hf hb => ?_) (fun R args s K r h => ?_) (fun R args s K r h => ?_)
  · have hc : body = c24 := by
      have h1 : Try.prog.funcs[24]? = some Try.f24 := rfl
      rw [h1] at hf; cases hf
      have h2 : Try.f24.body = some c24 := rfl
      rw [h2] at hb; cases hb; rfl
    subst hc
    exact SoundPc.none _ _ _
  · unfold t24 at h; split at h
    · rfl
    · cases h
  · unfold t24 at h; split at h
    case h_2 => cases h
    split at h
    case h_2 => cases h
    rename_i hq
    have hq := FT.sames_eq _ _ hq
    subst hq
    exact (e24 R K fu _ _ _).symm.trans h

noncomputable def tb24 (fu : Nat) : FuncId → Option (Bool × ToldF) := fun f => match Nat.beq f 24 with
  | true => some (false, ghF [.gc, .ownC 0 1 ft7, .gc] (t24 fu))
  | false => (tb29 fu) f
theorem tb24_sound (fu : Nat) : SoundF' Try.prog (tb24 fu) := by
  intro f own told h
  unfold tb24 at h
  split at h
  · rename_i hb
    cases h
    have := Nat.eq_of_beq_eq_true hb
    subst this
    exact ghF_sound (s24 fu)
  · exact (tb29_sound fu) f own told h

end Go.Proofs.Ytdoikghgblohjaa.V

/- Printed by ugen: (*daisychain/client.Client).Begin -/
namespace Go.Proofs.Ytdoikghgblohjaa.V
set_option maxRecDepth 100000


noncomputable def c18 : Code := match Try.f18.body with | some c => c | none => .skip

noncomputable def F18 {R : Type} (fu : Nat) (now : Int) (cmd : List D) (c_id : Int) (c_l : List (List D)) (c_open : Bool) (k0 : Option R) (k1 : (List D) → (List (List D)) → Option R) : Option R :=
  bif c_open then (k0) else F62 fu [D.int (cell 0 cmd).toInt, D.int (cell 1 cmd).toInt, D.int (cell 2 cmd).toInt, D.str (cell 3 cmd).toStr, D.int (cell 4 cmd).toInt, D.int (cell 5 cmd).toInt, D.int (cell 6 cmd).toInt, D.int (cell 7 cmd).toInt, D.int (cell 8 cmd).toInt, D.str (cell 9 cmd).toStr, D.bool (cell 10 cmd).toBool, D.str (cell 11 cmd).toStr, D.str (cell 12 cmd).toStr, D.str (cell 13 cmd).toStr, D.str (cell 14 cmd).toStr, D.row (cell 15 cmd).toRows, D.int (cell 16 cmd).toInt, D.int (cell 17 cmd).toInt] fun o0 => bif fits (c_l.length + 1) 288 then F62 fu [D.int c_id, D.int (IntKind.i64.wrap (ofN c_l.length + 1)), D.int (cell 2 o0).toInt, D.str (cell 3 o0).toStr, D.int (cell 4 o0).toInt, D.int (cell 5 o0).toInt, D.int (cell 6 o0).toInt, D.int (cell 7 o0).toInt, D.int (cell 8 o0).toInt, D.str (cell 9 o0).toStr, D.bool (cell 10 o0).toBool, D.str (cell 11 o0).toStr, D.str (cell 12 o0).toStr, D.str (cell 13 o0).toStr, D.str (cell 14 o0).toStr, D.row (cell 15 o0).toRows, D.int (cell 16 o0).toInt, D.int (cell 17 o0).toInt] fun o1 => (k1 o1 (c_l ++ [[D.int c_id, D.int (IntKind.i64.wrap (ofN c_l.length + 1)), D.int (cell 2 o0).toInt, D.str (cell 3 o0).toStr, D.int (cell 4 o0).toInt, D.int (cell 5 o0).toInt, D.int (cell 6 o0).toInt, D.int (cell 7 o0).toInt, D.int (cell 8 o0).toInt, D.str (cell 9 o0).toStr, D.bool (cell 10 o0).toBool, D.str (cell 11 o0).toStr, D.str (cell 12 o0).toStr, D.str (cell 13 o0).toStr, D.str (cell 14 o0).toStr, D.row (cell 15 o0).toRows, D.int (cell 16 o0).toInt, D.int (cell 17 o0).toInt, D.int now, D.int 0, D.bool false, D.int 0, D.nil, D.nil]])) else none

noncomputable def pc18 (fu : Nat) : Nat → Option ToldP := fun _ => none
noncomputable def t18 (fu : Nat) : ToldF := fun _ args s K => match args, s with
  | [.ptr 0 0, .int .i64 now, .agg [.int .i64 q, .int .i64 q1, .int .i64 q2, .str q3, .int .i64 q4, .int .i64 q5, .int .i64 q6, .int .i64 q7, .int .i64 q8, .str q9, .bool q10, .str q11, .str q12, .str q13, .str q14, .fz zq0 q15 false, .int .i64 q16, .int .i64 q17]], [.obj [.int .i64 c_id, .own 1, .bool c_open], .row zq1 c_l] => (match FT.sames zq0 ft2 with | true => (match FT.sames zq1 ft7 with | true => F18 fu now [D.int q, D.int q1, D.int q2, D.str q3, D.int q4, D.int q5, D.int q6, D.int q7, D.int q8, D.str q9, D.bool q10, D.str q11, D.str q12, D.str q13, D.str q14, D.row q15, D.int q16, D.int q17] c_id c_l c_open (K (.tuple [.agg [.int .i64 (0), .int .i64 (0), .int .i64 (0), .str ({ data := #[] }), .int .i64 (0), .int .i64 (0), .int .i64 (0), .int .i64 (0), .int .i64 (0), .str ({ data := #[] }), .bool (false), .str ({ data := #[] }), .str ({ data := #[] }), .str ({ data := #[] }), .str ({ data := #[] }), .fz ft2 ([]) false, .int .i64 (0), .int .i64 (0)], .int .i64 (9)]) [.obj [.int .i64 (c_id), .own 1, .bool (c_open)], .row ft7 (c_l)]) (fun o o1 => K (.tuple [.agg (ofDs 0 ft5 o), .int .i64 (0)]) [.obj [.int .i64 (c_id), .own 2, .bool (true)], .gone, .row ft7 o1]) | false => none) | false => none)
  | _, _ => none

theorem e18 (R : Type) (K : UV → USt → Option R) (fu : Nat) (now : Int) (q : Int) (q1 : Int) (q2 : Int) (q3 : ByteArray) (q4 : Int) (q5 : Int) (q6 : Int) (q7 : Int) (q8 : Int) (q9 : ByteArray) (q10 : Bool) (q11 : ByteArray) (q12 : ByteArray) (q13 : ByteArray) (q14 : ByteArray) (q15 : List (List D)) (q16 : Int) (q17 : Int) (c_id : Int) (c_l : List (List D)) (c_open : Bool) :
    F18 fu now [D.int q, D.int q1, D.int q2, D.str q3, D.int q4, D.int q5, D.int q6, D.int q7, D.int q8, D.str q9, D.bool q10, D.str q11, D.str q12, D.str q13, D.str q14, D.row q15, D.int q16, D.int q17] c_id c_l c_open (K (.tuple [.agg [.int .i64 (0), .int .i64 (0), .int .i64 (0), .str ({ data := #[] }), .int .i64 (0), .int .i64 (0), .int .i64 (0), .int .i64 (0), .int .i64 (0), .str ({ data := #[] }), .bool (false), .str ({ data := #[] }), .str ({ data := #[] }), .str ({ data := #[] }), .str ({ data := #[] }), .fz ft2 ([]) false, .int .i64 (0), .int .i64 (0)], .int .i64 (9)]) [.obj [.int .i64 (c_id), .own 1, .bool (c_open)], .row ft7 (c_l)]) (fun o o1 => K (.tuple [.agg (ofDs 0 ft5 o), .int .i64 (0)]) [.obj [.int .i64 (c_id), .own 2, .bool (true)], .gone, .row ft7 o1]) = ufun Try.prog ⟨(tb24 fu), pc18 fu⟩ 300 18 [.ptr 0 0, .int .i64 now, .agg [.int .i64 q, .int .i64 q1, .int .i64 q2, .str q3, .int .i64 q4, .int .i64 q5, .int .i64 q6, .int .i64 q7, .int .i64 q8, .str q9, .bool q10, .str q11, .str q12, .str q13, .str q14, .fz ft2 q15 false, .int .i64 q16, .int .i64 q17]] [.obj [.int .i64 c_id, .own 1, .bool c_open], .row ft7 c_l] (funK 2 [.fzP 0 [0, 15] ft2, .gc, .ownC 0 1 ft7, .gc] K) := by kernel_rfl

theorem s18 (fu : Nat) : Tells Try.prog 18 (t18 fu) := by
  refine ufun_sound (T := ⟨(tb24 fu), pc18 fu⟩) (m := 2) (gout := [.fzP 0 [0, 15] ft2, .gc, .ownC 0 1 ft7, .gc]) (k := 300) (tb24_sound fu) (fun fn body hf hb => ?_) (fun R args s K r h => ?_) (fun R args s K r h => ?_)
  · have hc : body = c18 := by
      have h1 : Try.prog.funcs[18]? = some Try.f18 := rfl
      rw [h1] at hf; cases hf
      have h2 : Try.f18.body = some c18 := rfl
      rw [h2] at hb; cases hb; rfl
    subst hc
    exact SoundPc.none _ _ _
  · unfold t18 at h; split at h
    · rfl
    · cases h
  · unfold t18 at h; split at h
    case h_2 => cases h
    split at h
    case h_2 => cases h
    rename_i hq
    have hq := FT.sames_eq _ _ hq
    subst hq
    split at h
    case h_2 => cases h
    rename_i hq
    have hq := FT.sames_eq _ _ hq
    subst hq
    exact (e18 R K fu _ _ _ _ _ _ _ _ _ _ _ _ _ _ _ _ _ _ _ _ _ _).symm.trans h

noncomputable def tb18 (fu : Nat) : FuncId → Option (Bool × ToldF) := fun f => match Nat.beq f 18 with
  | true => some (false, ghF [.fzP 2 [15] ft2, .gc, .ownC 0 1 ft7, .gc] (t18 fu))
  | false => (tb24 fu) f
theorem tb18_sound (fu : Nat) : SoundF' Try.prog (tb18 fu) := by
  intro f own told h
  unfold tb18 at h
  split at h
  · rename_i hb
    cases h
    have := Nat.eq_of_beq_eq_true hb
    subst this
    exact ghF_sound (s18 fu)
  · exact (tb24_sound fu) f own told h

end Go.Proofs.Ytdoikghgblohjaa.V

/- Printed by ugen: (*daisychain/client.Client).End -/
namespace Go.Proofs.Ytdoikghgblohjaa.V
set_option maxRecDepth 100000


noncomputable def c19 : Code := match Try.f19.body with | some c => c | none => .skip

noncomputable def F19 {R : Type} (fu : Nat) (now : Int) (req : Int) (a : List D) (c_id : Int) (c_l : List (List D)) (c_open : Bool) (k0 : Bool → Bool → (List (List D)) → Option R) : Option R :=
  bif !c_open then (k0 false c_open c_l) else bif !decide (req = ofN c_l.length) then (k0 false c_open c_l) else bif within (IntKind.i64.wrap (ofN c_l.length - 1)) c_l.length then F63 fu [D.int (cell 0 a).toInt, D.row (cell 1 a).toRows, D.row (cell 2 a).toRows] fun o0 => (k0 true false (putAt (putAt (putAt c_l (IntKind.i64.wrap (ofN c_l.length - 1)).toNat 19 [D.int now]) (IntKind.i64.wrap (ofN c_l.length - 1)).toNat 20 [D.bool true]) (IntKind.i64.wrap (ofN c_l.length - 1)).toNat 21 [D.int (cell 0 o0).toInt, D.row (cell 1 o0).toRows, D.row (cell 2 o0).toRows])) else none

noncomputable def pc19 (fu : Nat) : Nat → Option ToldP := fun _ => none
noncomputable def t19 (fu : Nat) : ToldF := fun _ args s K => match args, s with
  | [.ptr 0 0, .int .i64 now, .int .i64 req, .agg [.int .i64 q, .fz zq0 q1 false, .fz zq1 q2 false]], [.obj [.int .i64 c_id, .own 1, .bool c_open], .row zq2 c_l] => (match FT.sames zq0 ft3 with | true => (match FT.sames zq1 ft4 with | true => (match FT.sames zq2 ft7 with | true => F19 fu now req [D.int q, D.row q1, D.row q2] c_id c_l c_open (fun o o1 o2 => K (.bool o) [.obj [.int .i64 (c_id), .own 1, .bool o1], .row ft7 o2]) | false => none) | false => none) | false => none)
  | _, _ => none

theorem e19 (R : Type) (K : UV → USt → Option R) (fu : Nat) (now : Int) (req : Int) (q : Int) (q1 : List (List D)) (q2 : List (List D)) (c_id : Int) (c_l : List (List D)) (c_open : Bool) :
    F19 fu now req [D.int q, D.row q1, D.row q2] c_id c_l c_open (fun o o1 o2 => K (.bool o) [.obj [.int .i64 (c_id), .own 1, .bool o1], .row ft7 o2]) = ufun Try.prog ⟨(tb18 fu), pc19 fu⟩ 300 19 [.ptr 0 0, .int .i64 now, .int .i64 req, .agg [.int .i64 q, .fz ft3 q1 false, .fz ft4 q2 false]] [.obj [.int .i64 c_id, .own 1, .bool c_open], .row ft7 c_l] (funK 2 [.gc, .ownC 0 1 ft7, .gc] K) := by kernel_rfl

theorem s19 (fu : Nat) : Tells Try.prog 19 (t19 fu) := by
  refine ufun_sound (T := ⟨(tb18 fu), pc19 fu⟩) (m := 2) (gout := [.gc, .ownC 0 1 ft7, .gc]) (k := 300) (tb18_sound fu) (fun fn body hf hb => ?_) (fun R args s K r h => ?_) (fun R args s K r h => ?_)
  · have hc : body = c19 := by
      have h1 : Try.prog.funcs[19]? = some Try.f19 := rfl
      rw [h1] at hf; cases hf
      have h2 : Try.f19.body = some c19 := rfl
      rw [h2] at hb; cases hb; rfl
    subst hc
    exact SoundPc.none _ _ _
  · unfold t19 at h; split at h
    · rfl
    · cases h
  · unfold t19 at h; split at h
    case h_2 => cases h
    split at h
    case h_2 => cases h
    rename_i hq
    have hq := FT.sames_eq _ _ hq
    subst hq
    split at h
    case h_2 => cases h
    rename_i hq
    have hq := FT.sames_eq _ _ hq
    subst hq
    split at h
    case h_2 => cases h
    rename_i hq
    have hq := FT.sames_eq _ _ hq
    subst hq
    exact (e19 R K fu _ _ _ _ _ _ _ _).symm.trans h

noncomputable def tb19 (fu : Nat) : FuncId → Option (Bool × ToldF) := fun f => match Nat.beq f 19 with
  | true => some (false, ghF [.fzP 3 [1] ft3, .fzP 3 [2] ft4, .gc, .ownC 0 1 ft7, .gc] (t19 fu))
  | false => (tb18 fu) f
theorem tb19_sound (fu : Nat) : SoundF' Try.prog (tb19 fu) := by
  intro f own told h
  unfold tb19 at h
  split at h
  · rename_i hb
    cases h
    have := Nat.eq_of_beq_eq_true hb
    subst this
    exact ghF_sound (s19 fu)
  · exact (tb18_sound fu) f own told h

end Go.Proofs.Ytdoikghgblohjaa.V

/- Printed by ugen: (*daisychain/client.Client).Calls -/
namespace Go.Proofs.Ytdoikghgblohjaa.V
set_option maxRecDepth 100000


noncomputable def c20 : Code := match Try.f20.body with | some c => c | none => .skip
theorem a20_58 : codeAt c20 58 = some (.loop (loopBody (codeAt c20 58))) := by kernel_rfl
noncomputable def F20_58 {R : Type} (fu : Nat) (x : Int) (x2 : List (List D)) : Nat → Int → (List (List D)) → ((List (List D)) → Option R) → Option R
  | 0, _, _, _ => none
  | n + 1, x1, out, k0 => bif decide (x1 < x) then bif within x1 x2.length then F62 fu [D.int (cell 0 (elem x1.toNat x2)).toInt, D.int (cell 1 (elem x1.toNat x2)).toInt, D.int (cell 2 (elem x1.toNat x2)).toInt, D.str (cell 3 (elem x1.toNat x2)).toStr, D.int (cell 4 (elem x1.toNat x2)).toInt, D.int (cell 5 (elem x1.toNat x2)).toInt, D.int (cell 6 (elem x1.toNat x2)).toInt, D.int (cell 7 (elem x1.toNat x2)).toInt, D.int (cell 8 (elem x1.toNat x2)).toInt, D.str (cell 9 (elem x1.toNat x2)).toStr, D.bool (cell 10 (elem x1.toNat x2)).toBool, D.str (cell 11 (elem x1.toNat x2)).toStr, D.str (cell 12 (elem x1.toNat x2)).toStr, D.str (cell 13 (elem x1.toNat x2)).toStr, D.str (cell 14 (elem x1.toNat x2)).toStr, D.row (cell 15 (elem x1.toNat x2)).toRows, D.int (cell 16 (elem x1.toNat x2)).toInt, D.int (cell 17 (elem x1.toNat x2)).toInt] fun o0 => F63 fu [D.int (cell 21 (elem x1.toNat x2)).toInt, D.row (cell 22 (elem x1.toNat x2)).toRows, D.row (cell 23 (elem x1.toNat x2)).toRows] fun o1 => bif fits (out.length + 1) 288 then (F20_58 fu x x2 n (IntKind.i64.wrap (x1 + 1)) (out ++ [[D.int (cell 0 o0).toInt, D.int (cell 1 o0).toInt, D.int (cell 2 o0).toInt, D.str (cell 3 o0).toStr, D.int (cell 4 o0).toInt, D.int (cell 5 o0).toInt, D.int (cell 6 o0).toInt, D.int (cell 7 o0).toInt, D.int (cell 8 o0).toInt, D.str (cell 9 o0).toStr, D.bool (cell 10 o0).toBool, D.str (cell 11 o0).toStr, D.str (cell 12 o0).toStr, D.str (cell 13 o0).toStr, D.str (cell 14 o0).toStr, D.row (cell 15 o0).toRows, D.int (cell 16 o0).toInt, D.int (cell 17 o0).toInt, D.int (cell 18 (elem x1.toNat x2)).toInt, D.int (cell 19 (elem x1.toNat x2)).toInt, D.bool (cell 20 (elem x1.toNat x2)).toBool, D.int (cell 0 o1).toInt, D.row (cell 1 o1).toRows, D.row (cell 2 o1).toRows]]) k0) else none else none else (k0 out)

noncomputable def t20_58 (fu n : Nat) : ToldP := fun _ e s K => match e, s with
  | [.undef, .undef, .undef, .own 2, .undef, .undef, .undef, .undef, .undef, .own 1, .int .i64 x, .int .i64 x1], [.obj [.int .i64 y, .own 1, .bool y1], .row zq0 x2, .row zq1 out] => (match FT.sames zq0 ft7 with | true => (match FT.sames zq1 ft7 with | true => F20_58 fu x x2 n x1 out (fun o => K (.exit 0) [.undef, .undef, .undef, .own 2] [.obj [.int .i64 (y), .own 1, .bool (y1)], .row ft7 (x2), .row ft7 o]) | false => none) | false => none)
  | _, _ => none

noncomputable def pc20_58 (fu : Nat) : Nat → Option ToldP := fun _ => none
theorem e20_58 (fu n : Nat) (R : Type) (K : VExit → UEnv → USt → Option R) (x : Int) (x1 : Int) (y : Int) (y1 : Bool) (x2 : List (List D)) (out : List (List D)) :
    F20_58 fu x x2 (n + 1) x1 out (fun o => K (.exit 0) [.undef, .undef, .undef, .own 2] [.obj [.int .i64 (y), .own 1, .bool (y1)], .row ft7 (x2), .row ft7 o]) = uexec Try.prog (tb19 fu) 300 (pc20_58 fu) 116 (loopBody (codeAt c20 58)) [.undef, .undef, .undef, .own 2, .undef, .undef, .undef, .undef, .undef, .own 1, .int .i64 x, .int .i64 x1] [.obj [.int .i64 y, .own 1, .bool y1], .row ft7 x2, .row ft7 out] (loopK 2 [.live [false, false, false, true, false, false, false, false, false, true, true, true], .ownP 3 [] ft7, .ownP 9 [] ft7, .gc] [.live [false, false, true, true], .gc] (t20_58 fu n) K) := by kernel_rfl

theorem p20_58 (fu : Nat) : SoundPc Try.prog 2 c20 (pc20_58 fu) := SoundPc.none _ _ _
theorem s20_58 (fu : Nat) : ∀ n, SoundP Try.prog 2 (.loop (loopBody (codeAt c20 58))) (t20_58 fu n) := by
  refine loop_sound (gin := [.live [false, false, false, true, false, false, false, false, false, true, true, true], .ownP 3 [] ft7, .ownP 9 [] ft7, .gc]) (gout := [.live [false, false, true, true], .gc]) (k := 300) (tb19_sound fu) (p20_58 fu) (by decide) a20_58 (fun R e s K => ?_) (fun n R e s K r h => ?_)
  · unfold t20_58; repeat' split
    all_goals rfl
  · unfold t20_58 at h; split at h
    case h_2 => cases h
    split at h
    case h_2 => cases h
    rename_i hq
    have hq := FT.sames_eq _ _ hq
    subst hq
    split at h
    case h_2 => cases h
    rename_i hq
    have hq := FT.sames_eq _ _ hq
    subst hq
    exact (e20_58 fu n R K _ _ _ _ _ _).symm.trans h


noncomputable def F20 {R : Type} (fu : Nat) (c_id : Int) (c_l : List (List D)) (c_open : Bool) (k0 : (List (List D)) → Option R) : Option R :=
  F20_58 fu (ofN c_l.length) c_l fu 0 [] fun o0 => (k0 o0)

noncomputable def pc20 (fu : Nat) : Nat → Option ToldP := fun p => match Nat.beq p 58 with | true => some (ghP 2 [.live [false, false, false, true, false, false, false, false, false, true, true, true], .ownP 3 [] ft7, .ownP 9 [] ft7, .gc] (t20_58 fu fu)) | false => none
noncomputable def t20 (fu : Nat) : ToldF := fun _ args s K => match args, s with
  | [.ptr 0 0], [.obj [.int .i64 c_id, .own 1, .bool c_open], .row zq0 c_l] => (match FT.sames zq0 ft7 with | true => F20 fu c_id c_l c_open (fun o => K (.own 2) [.obj [.int .i64 (c_id), .own 1, .bool (c_open)], .row ft7 (c_l), .row ft7 o]) | false => none)
  | _, _ => none

theorem e20 (R : Type) (K : UV → USt → Option R) (fu : Nat) (c_id : Int) (c_l : List (List D)) (c_open : Bool) :
    F20 fu c_id c_l c_open (fun o => K (.own 2) [.obj [.int .i64 (c_id), .own 1, .bool (c_open)], .row ft7 (c_l), .row ft7 o]) = ufun Try.prog ⟨(tb19 fu), pc20 fu⟩ 300 20 [.ptr 0 0] [.obj [.int .i64 c_id, .own 1, .bool c_open], .row ft7 c_l] (funK 2 [.gc, .ownC 0 1 ft7, .gc] K) := by kernel_rfl

theorem s20 (fu : Nat) : Tells Try.prog 20 (t20 fu) := by
  refine ufun_sound (T := ⟨(tb19 fu), pc20 fu⟩) (m := 2) (gout := [.gc, .ownC 0 1 ft7, .gc]) (k := 300) (tb19_sound fu) (fun fn body hf hb => ?_) (fun R args s K r h => ?_) (fun R args s K r h => ?_)
  · have hc : body = c20 := by
      have h1 : Try.prog.funcs[20]? = some Try.f20 := rfl
      rw [h1] at hf; cases hf
      have h2 : Try.f20.body = some c20 := rfl
      rw [h2] at hb; cases hb; rfl
    subst hc
    exact fun p told h b hb => by
      replace h : pc20 fu p = some told := h
      unfold pc20 at h
      split at h
      · rename_i hp
        cases h
        have := Nat.eq_of_beq_eq_true hp
        subst this
        rw [a20_58] at hb
        cases hb
        exact ghP_sound (s20_58 fu _)
      ·
        cases h

  · unfold t20 at h; split at h
    · rfl
    · cases h
  · unfold t20 at h; split at h
    case h_2 => cases h
    split at h
    case h_2 => cases h
    rename_i hq
    have hq := FT.sames_eq _ _ hq
    subst hq
    exact (e20 R K fu _ _ _).symm.trans h

noncomputable def tb20 (fu : Nat) : FuncId → Option (Bool × ToldF) := fun f => match Nat.beq f 20 with
  | true => some (false, ghF [.gc, .ownC 0 1 ft7, .gc] (t20 fu))
  | false => (tb19 fu) f
theorem tb20_sound (fu : Nat) : SoundF' Try.prog (tb20 fu) := by
  intro f own told h
  unfold tb20 at h
  split at h
  · rename_i hb
    cases h
    have := Nat.eq_of_beq_eq_true hb
    subst this
    exact ghF_sound (s20 fu)
  · exact (tb19_sound fu) f own told h

end Go.Proofs.Ytdoikghgblohjaa.V

/- Printed by ugen: (*daisychain/client.Client).Open -/
namespace Go.Proofs.Ytdoikghgblohjaa.V
set_option maxRecDepth 100000


noncomputable def c25 : Code := match Try.f25.body with | some c => c | none => .skip

noncomputable def F25 {R : Type} (fu : Nat) (c_id : Int) (c_l : List (List D)) (c_open : Bool) (k0 : (List D) → Bool → Option R) : Option R :=
  bif !c_open then (k0 ([D.int 0, D.int 0, D.int 0, D.str ({ data := #[] }), D.int 0, D.int 0, D.int 0, D.int 0, D.int 0, D.str ({ data := #[] }), D.bool false, D.str ({ data := #[] }), D.str ({ data := #[] }), D.str ({ data := #[] }), D.str ({ data := #[] }), D.row [], D.int 0, D.int 0]) false) else bif within (IntKind.i64.wrap (ofN c_l.length - 1)) c_l.length then F62 fu [D.int (cell 0 (elem (IntKind.i64.wrap (ofN c_l.length - 1)).toNat c_l)).toInt, D.int (cell 1 (elem (IntKind.i64.wrap (ofN c_l.length - 1)).toNat c_l)).toInt, D.int (cell 2 (elem (IntKind.i64.wrap (ofN c_l.length - 1)).toNat c_l)).toInt, D.str (cell 3 (elem (IntKind.i64.wrap (ofN c_l.length - 1)).toNat c_l)).toStr, D.int (cell 4 (elem (IntKind.i64.wrap (ofN c_l.length - 1)).toNat c_l)).toInt, D.int (cell 5 (elem (IntKind.i64.wrap (ofN c_l.length - 1)).toNat c_l)).toInt, D.int (cell 6 (elem (IntKind.i64.wrap (ofN c_l.length - 1)).toNat c_l)).toInt, D.int (cell 7 (elem (IntKind.i64.wrap (ofN c_l.length - 1)).toNat c_l)).toInt, D.int (cell 8 (elem (IntKind.i64.wrap (ofN c_l.length - 1)).toNat c_l)).toInt, D.str (cell 9 (elem (IntKind.i64.wrap (ofN c_l.length - 1)).toNat c_l)).toStr, D.bool (cell 10 (elem (IntKind.i64.wrap (ofN c_l.length - 1)).toNat c_l)).toBool, D.str (cell 11 (elem (IntKind.i64.wrap (ofN c_l.length - 1)).toNat c_l)).toStr, D.str (cell 12 (elem (IntKind.i64.wrap (ofN c_l.length - 1)).toNat c_l)).toStr, D.str (cell 13 (elem (IntKind.i64.wrap (ofN c_l.length - 1)).toNat c_l)).toStr, D.str (cell 14 (elem (IntKind.i64.wrap (ofN c_l.length - 1)).toNat c_l)).toStr, D.row (cell 15 (elem (IntKind.i64.wrap (ofN c_l.length - 1)).toNat c_l)).toRows, D.int (cell 16 (elem (IntKind.i64.wrap (ofN c_l.length - 1)).toNat c_l)).toInt, D.int (cell 17 (elem (IntKind.i64.wrap (ofN c_l.length - 1)).toNat c_l)).toInt] fun o0 => (k0 o0 true) else none

noncomputable def pc25 (fu : Nat) : Nat → Option ToldP := fun _ => none
noncomputable def t25 (fu : Nat) : ToldF := fun _ args s K => match args, s with
  | [.ptr 0 0], [.obj [.int .i64 c_id, .own 1, .bool c_open], .row zq0 c_l] => (match FT.sames zq0 ft7 with | true => F25 fu c_id c_l c_open (fun o o1 => K (.tuple [.agg (ofDs 0 ft5 o), .bool o1]) [.obj [.int .i64 (c_id), .own 1, .bool (c_open)], .row ft7 (c_l)]) | false => none)
  | _, _ => none

theorem e25 (R : Type) (K : UV → USt → Option R) (fu : Nat) (c_id : Int) (c_l : List (List D)) (c_open : Bool) :
    F25 fu c_id c_l c_open (fun o o1 => K (.tuple [.agg (ofDs 0 ft5 o), .bool o1]) [.obj [.int .i64 (c_id), .own 1, .bool (c_open)], .row ft7 (c_l)]) = ufun Try.prog ⟨(tb20 fu), pc25 fu⟩ 300 25 [.ptr 0 0] [.obj [.int .i64 c_id, .own 1, .bool c_open], .row ft7 c_l] (funK 2 [.fzP 0 [0, 15] ft2, .gc, .ownC 0 1 ft7, .gc] K) := by kernel_rfl

theorem s25 (fu : Nat) : Tells Try.prog 25 (t25 fu) := by
  refine ufun_sound (T := ⟨(tb20 fu), pc25 fu⟩) (m := 2) (gout := [.fzP 0 [0, 15] ft2, .gc, .ownC 0 1 ft7, .gc]) (k := 300) (tb20_sound fu) (fun fn body hf hb => ?_) (fun R args s K r h => ?_) (fun R args s K r h => ?_)
  · have hc : body = c25 := by
      have h1 : Try.prog.funcs[25]? = some Try.f25 := rfl
      rw [h1] at hf; cases hf
      have h2 : Try.f25.body = some c25 := rfl
      rw [h2] at hb; cases hb; rfl
    subst hc
    exact SoundPc.none _ _ _
  · unfold t25 at h; split at h
    · rfl
    · cases h
  · unfold t25 at h; split at h
    case h_2 => cases h
    split at h
    case h_2 => cases h
    rename_i hq
    have hq := FT.sames_eq _ _ hq
    subst hq
    exact (e25 R K fu _ _ _).symm.trans h

noncomputable def tb25 (fu : Nat) : FuncId → Option (Bool × ToldF) := fun f => match Nat.beq f 25 with
  | true => some (false, ghF [.gc, .ownC 0 1 ft7, .gc] (t25 fu))
  | false => (tb20 fu) f
theorem tb25_sound (fu : Nat) : SoundF' Try.prog (tb25 fu) := by
  intro f own told h
  unfold tb25 at h
  split at h
  · rename_i hb
    cases h
    have := Nat.eq_of_beq_eq_true hb
    subst this
    exact ghF_sound (s25 fu)
  · exact (tb20_sound fu) f own told h

end Go.Proofs.Ytdoikghgblohjaa.V

/- Printed by ugen: daisychain/daisychainlaw08.Attr -/
namespace Go.Proofs.Ytdoikghgblohjaa.V
set_option maxRecDepth 100000

abbrev ft8 : List FT := [FT.int IntKind.i64, FT.int IntKind.i64, FT.int IntKind.i64, FT.int IntKind.i64, FT.int IntKind.i64, FT.str, FT.bool]

noncomputable def c64 : Code := match Try.f64.body with | some c => c | none => .skip

noncomputable def F64 {R : Type} (fu : Nat) (a : List D) (k0 : (List D) → Option R) : Option R :=
  (k0 a)

noncomputable def pc64 (fu : Nat) : Nat → Option ToldP := fun _ => none
noncomputable def t64 (fu : Nat) : ToldF := fun _ args s K => match args, s with
  | [.agg [.int .i64 q, .int .i64 q1, .int .i64 q2, .int .i64 q3, .int .i64 q4, .str q5, .bool q6]], [] => F64 fu [D.int q, D.int q1, D.int q2, D.int q3, D.int q4, D.str q5, D.bool q6] (fun o => K (.agg (ofDs 0 ft8 o)) [])
  | _, _ => none

theorem e64 (R : Type) (K : UV → USt → Option R) (fu : Nat) (q : Int) (q1 : Int) (q2 : Int) (q3 : Int) (q4 : Int) (q5 : ByteArray) (q6 : Bool) :
    F64 fu [D.int q, D.int q1, D.int q2, D.int q3, D.int q4, D.str q5, D.bool q6] (fun o => K (.agg (ofDs 0 ft8 o)) []) = ufun Try.prog ⟨(tb25 fu), pc64 fu⟩ 300 64 [.agg [.int .i64 q, .int .i64 q1, .int .i64 q2, .int .i64 q3, .int .i64 q4, .str q5, .bool q6]] [] (funK 0 [.gc] K) := by kernel_rfl

theorem s64 (fu : Nat) : Tells Try.prog 64 (t64 fu) := by
  refine ufun_sound (T := ⟨(tb25 fu), pc64 fu⟩) (m := 0) (gout := [.gc]) (k := 300) (tb25_sound fu) (fun fn body hf hb => ?_) (fun R args s K r h => ?_) (fun R args s K r h => ?_)
  · have hc : body = c64 := by
      have h1 : Try.prog.funcs[64]? = some Try.f64 := rfl
      rw [h1] at hf; cases hf
      have h2 : Try.f64.body = some c64 := rfl
      rw [h2] at hb; cases hb; rfl
    subst hc
    exact SoundPc.none _ _ _
  · unfold t64 at h; split at h
    · rfl
    · cases h
  · unfold t64 at h; split at h
    case h_2 => cases h
    exact (e64 R K fu _ _ _ _ _ _ _).symm.trans h

noncomputable def tb64 (fu : Nat) : FuncId → Option (Bool × ToldF) := fun f => match Nat.beq f 64 with
  | true => some (false, ghF [] (t64 fu))
  | false => (tb25 fu) f
theorem tb64_sound (fu : Nat) : SoundF' Try.prog (tb64 fu) := by
  intro f own told h
  unfold tb64 at h
  split at h
  · rename_i hb
    cases h
    have := Nat.eq_of_beq_eq_true hb
    subst this
    exact ghF_sound (s64 fu)
  · exact (tb25_sound fu) f own told h

end Go.Proofs.Ytdoikghgblohjaa.V

/- Printed by ugen: daisychain/daisychainlaw09.Cmd -/
namespace Go.Proofs.Ytdoikghgblohjaa.V
set_option maxRecDepth 100000


noncomputable def c27 : Code := match Try.f27.body with | some c => c | none => .skip

noncomputable def F27 {R : Type} (fu : Nat) (c : List D) (k0 : (List D) → Option R) : Option R :=
  F64 fu [D.int (cell 4 c).toInt, D.int (cell 5 c).toInt, D.int (cell 6 c).toInt, D.int (cell 7 c).toInt, D.int (cell 8 c).toInt, D.str (cell 9 c).toStr, D.bool (cell 10 c).toBool] fun o0 => (k0 [D.int ((cell 0 c).toInt), D.int ((cell 1 c).toInt), D.int ((cell 2 c).toInt), D.str ((cell 3 c).toStr), D.int ((cell 0 o0).toInt), D.int ((cell 1 o0).toInt), D.int ((cell 2 o0).toInt), D.int ((cell 3 o0).toInt), D.int ((cell 4 o0).toInt), D.str ((cell 5 o0).toStr), D.bool ((cell 6 o0).toBool), D.str ((cell 11 c).toStr), D.str ((cell 12 c).toStr), D.str ((cell 13 c).toStr), D.str ((cell 14 c).toStr), D.row ((cell 15 c).toRows), D.int ((cell 16 c).toInt), D.int ((cell 17 c).toInt)])

noncomputable def pc27 (fu : Nat) : Nat → Option ToldP := fun _ => none
noncomputable def t27 (fu : Nat) : ToldF := fun _ args s K => match args, s with
  | [.agg [.int .i64 q, .int .i64 q1, .int .i64 q2, .str q3, .int .i64 q4, .int .i64 q5, .int .i64 q6, .int .i64 q7, .int .i64 q8, .str q9, .bool q10, .str q11, .str q12, .str q13, .str q14, .fz zq0 q15 false, .int .i64 q16, .int .i64 q17]], [] => (match FT.sames zq0 ft2 with | true => F27 fu [D.int q, D.int q1, D.int q2, D.str q3, D.int q4, D.int q5, D.int q6, D.int q7, D.int q8, D.str q9, D.bool q10, D.str q11, D.str q12, D.str q13, D.str q14, D.row q15, D.int q16, D.int q17] (fun o => K (.agg (ofDs 0 ft5 o)) []) | false => none)
  | _, _ => none

theorem e27 (R : Type) (K : UV → USt → Option R) (fu : Nat) (q : Int) (q1 : Int) (q2 : Int) (q3 : ByteArray) (q4 : Int) (q5 : Int) (q6 : Int) (q7 : Int) (q8 : Int) (q9 : ByteArray) (q10 : Bool) (q11 : ByteArray) (q12 : ByteArray) (q13 : ByteArray) (q14 : ByteArray) (q15 : List (List D)) (q16 : Int) (q17 : Int) :
    F27 fu [D.int q, D.int q1, D.int q2, D.str q3, D.int q4, D.int q5, D.int q6, D.int q7, D.int q8, D.str q9, D.bool q10, D.str q11, D.str q12, D.str q13, D.str q14, D.row q15, D.int q16, D.int q17] (fun o => K (.agg (ofDs 0 ft5 o)) []) = ufun Try.prog ⟨(tb64 fu), pc27 fu⟩ 300 27 [.agg [.int .i64 q, .int .i64 q1, .int .i64 q2, .str q3, .int .i64 q4, .int .i64 q5, .int .i64 q6, .int .i64 q7, .int .i64 q8, .str q9, .bool q10, .str q11, .str q12, .str q13, .str q14, .fz ft2 q15 false, .int .i64 q16, .int .i64 q17]] [] (funK 0 [.fzP 0 [15] ft2, .gc] K) := by kernel_rfl

theorem s27 (fu : Nat) : Tells Try.prog 27 (t27 fu) := by
  refine ufun_sound (T := ⟨(tb64 fu), pc27 fu⟩) (m := 0) (gout := [.fzP 0 [15] ft2, .gc]) (k := 300) (tb64_sound fu) (fun fn body hf hb => ?_) (fun R args s K r h => ?_) (fun R args s K r h => ?_)
  · have hc : body = c27 := by
      have h1 : Try.prog.funcs[27]? = some Try.f27 := rfl
      rw [h1] at hf; cases hf
      have h2 : Try.f27.body = some c27 := rfl
      rw [h2] at hb; cases hb; rfl
    subst hc
    exact SoundPc.none _ _ _
  · unfold t27 at h; split at h
    · rfl
    · cases h
  · unfold t27 at h; split at h
    case h_2 => cases h
    split at h
    case h_2 => cases h
    rename_i hq
    have hq := FT.sames_eq _ _ hq
    subst hq
    exact (e27 R K fu _ _ _ _ _ _ _ _ _ _ _ _ _ _ _ _ _ _).symm.trans h

noncomputable def tb27 (fu : Nat) : FuncId → Option (Bool × ToldF) := fun f => match Nat.beq f 27 with
  | true => some (false, ghF [.fzP 0 [15] ft2] (t27 fu))
  | false => (tb64 fu) f
theorem tb27_sound (fu : Nat) : SoundF' Try.prog (tb27 fu) := by
  intro f own told h
  unfold tb27 at h
  split at h
  · rename_i hb
    cases h
    have := Nat.eq_of_beq_eq_true hb
    subst this
    exact ghF_sound (s27 fu)
  · exact (tb64_sound fu) f own told h

end Go.Proofs.Ytdoikghgblohjaa.V

/- Printed by ugen: daisychain/daisychainlaw09.Answer -/
namespace Go.Proofs.Ytdoikghgblohjaa.V
set_option maxRecDepth 100000


noncomputable def c23 : Code := match Try.f23.body with | some c => c | none => .skip
theorem a23_58 : codeAt c23 58 = some (.loop (loopBody (codeAt c23 58))) := by kernel_rfl
noncomputable def F23_58 {R : Type} (fu : Nat) (x : List (List D)) (x1 : Int) : Nat → Int → (List (List D)) → ((List (List D)) → Option R) → Option R
  | 0, _, _, _ => none
  | n + 1, x2, y, k0 => bif decide (x2 < x1) then bif within x2 x.length then bif fits (y.length + 1) 64 then (F23_58 fu x x1 n (IntKind.i64.wrap (x2 + 1)) (y ++ [[D.int (cell 0 (elem x2.toNat x)).toInt, D.int (cell 1 (elem x2.toNat x)).toInt, D.str (cell 2 (elem x2.toNat x)).toStr, D.str (cell 3 (elem x2.toNat x)).toStr, D.str (cell 4 (elem x2.toNat x)).toStr]]) k0) else none else none else (k0 y)

noncomputable def t23_58 (fu n : Nat) : ToldP := fun _ e s K => match e, s with
  | [.undef, .undef, .ptr 0 0, .ptr 1 0, .undef, .undef, .undef, .undef, .undef, .undef, .undef, .undef, .fz zq0 x false, .int .i64 x1, .int .i64 x2], [.obj [.int .i64 x3, .nilslice, .nilslice], .obj [.int .i64 out, .fz zq1 out1 false, .own 2], .row zq2 y] => (match FT.sames zq0 ft4 with | true => (match FT.sames zq1 ft3 with | true => (match FT.sames zq2 ft4 with | true => F23_58 fu x x1 n x2 y (fun o => K (.exit 0) [.undef, .undef, .ptr 0 0, .ptr 1 0] [.obj [.int .i64 (x3), .nilslice, .nilslice], .obj [.int .i64 (out), .fz ft3 (out1) false, .own 2], .row ft4 o]) | false => none) | false => none) | false => none)
  | _, _ => none

noncomputable def pc23_58 (fu : Nat) : Nat → Option ToldP := fun _ => none
theorem e23_58 (fu n : Nat) (R : Type) (K : VExit → UEnv → USt → Option R) (x : List (List D)) (x1 : Int) (x2 : Int) (x3 : Int) (out : Int) (out1 : List (List D)) (y : List (List D)) :
    F23_58 fu x x1 (n + 1) x2 y (fun o => K (.exit 0) [.undef, .undef, .ptr 0 0, .ptr 1 0] [.obj [.int .i64 (x3), .nilslice, .nilslice], .obj [.int .i64 (out), .fz ft3 (out1) false, .own 2], .row ft4 o]) = uexec Try.prog (tb27 fu) 300 (pc23_58 fu) 116 (loopBody (codeAt c23 58)) [.undef, .undef, .ptr 0 0, .ptr 1 0, .undef, .undef, .undef, .undef, .undef, .undef, .undef, .undef, .fz ft4 x false, .int .i64 x1, .int .i64 x2] [.obj [.int .i64 x3, .nilslice, .nilslice], .obj [.int .i64 out, .fz ft3 out1 false, .own 2], .row ft4 y] (loopK 0 [.live [false, false, true, true, false, false, false, false, false, false, false, false, true, true, true], .fzP 12 [] ft4, .gc, .fzC 1 1 ft3, .ownC 1 2 ft4, .gc] [.live [false, false, true, true], .gc] (t23_58 fu n) K) := by kernel_rfl

theorem p23_58 (fu : Nat) : SoundPc Try.prog 0 c23 (pc23_58 fu) := SoundPc.none _ _ _
theorem s23_58 (fu : Nat) : ∀ n, SoundP Try.prog 0 (.loop (loopBody (codeAt c23 58))) (t23_58 fu n) := by
  refine loop_sound (gin := [.live [false, false, true, true, false, false, false, false, false, false, false, false, true, true, true], .fzP 12 [] ft4, .gc, .fzC 1 1 ft3, .ownC 1 2 ft4, .gc]) (gout := [.live [false, false, true, true], .gc]) (k := 300) (tb27_sound fu) (p23_58 fu) (by decide) a23_58 (fun R e s K => ?_) (fun n R e s K r h => ?_)
  · unfold t23_58; repeat' split
    all_goals rfl
  · unfold t23_58 at h; split at h
    case h_2 => cases h
    split at h
    case h_2 => cases h
    rename_i hq
    have hq := FT.sames_eq _ _ hq
    subst hq
    split at h
    case h_2 => cases h
    rename_i hq
    have hq := FT.sames_eq _ _ hq
    subst hq
    split at h
    case h_2 => cases h
    rename_i hq
    have hq := FT.sames_eq _ _ hq
    subst hq
    exact (e23_58 fu n R K _ _ _ _ _ _ _).symm.trans h


noncomputable def F23 {R : Type} (fu : Nat) (a : List D) (k0 : (List D) → Option R) : Option R :=
  F23_58 fu (cell 2 a).toRows (ofN (cell 2 a).toRows.length) fu 0 [] fun o0 => (k0 [D.int ((cell 0 a).toInt), D.row ((cell 1 a).toRows), D.row o0])

noncomputable def pc23 (fu : Nat) : Nat → Option ToldP := fun p => match Nat.beq p 58 with | true => some (ghP 0 [.live [false, false, true, true, false, false, false, false, false, false, false, false, true, true, true], .fzP 12 [] ft4, .gc, .fzC 1 1 ft3, .ownC 1 2 ft4, .gc] (t23_58 fu fu)) | false => none
noncomputable def t23 (fu : Nat) : ToldF := fun _ args s K => match args, s with
  | [.agg [.int .i64 q, .fz zq0 q1 false, .fz zq1 q2 false]], [] => (match FT.sames zq0 ft3 with | true => (match FT.sames zq1 ft4 with | true => F23 fu [D.int q, D.row q1, D.row q2] (fun o => K (.agg (ofDs 0 ft6 o)) []) | false => none) | false => none)
  | _, _ => none

theorem e23 (R : Type) (K : UV → USt → Option R) (fu : Nat) (q : Int) (q1 : List (List D)) (q2 : List (List D)) :
    F23 fu [D.int q, D.row q1, D.row q2] (fun o => K (.agg (ofDs 0 ft6 o)) []) = ufun Try.prog ⟨(tb27 fu), pc23 fu⟩ 300 23 [.agg [.int .i64 q, .fz ft3 q1 false, .fz ft4 q2 false]] [] (funK 0 [.fzP 0 [1] ft3, .fzP 0 [2] ft4, .gc] K) := by kernel_rfl

theorem s23 (fu : Nat) : Tells Try.prog 23 (t23 fu) := by
  refine ufun_sound (T := ⟨(tb27 fu), pc23 fu⟩) (m := 0) (gout := [.fzP 0 [1] ft3, .fzP 0 [2] ft4, .gc]) (k := 300) (tb27_sound fu) (fun fn body hf hb => ?_) (fun R args s K r h => ?_) (fun R args s K r h => ?_)
  · have hc : body = c23 := by
      have h1 : Try.prog.funcs[23]? = some Try.f23 := rfl
      rw [h1] at hf; cases hf
      have h2 : Try.f23.body = some c23 := rfl
      rw [h2] at hb; cases hb; rfl
    subst hc
    exact fun p told h b hb => by
      replace h : pc23 fu p = some told := h
      unfold pc23 at h
      split at h
      · rename_i hp
        cases h
        have := Nat.eq_of_beq_eq_true hp
        subst this
        rw [a23_58] at hb
        cases hb
        exact ghP_sound (s23_58 fu _)
      ·
        cases h

  · unfold t23 at h; split at h
    · rfl
    · cases h
  · unfold t23 at h; split at h
    case h_2 => cases h
    split at h
    case h_2 => cases h
    rename_i hq
    have hq := FT.sames_eq _ _ hq
    subst hq
    split at h
    case h_2 => cases h
    rename_i hq
    have hq := FT.sames_eq _ _ hq
    subst hq
    exact (e23 R K fu _ _ _).symm.trans h

noncomputable def tb23 (fu : Nat) : FuncId → Option (Bool × ToldF) := fun f => match Nat.beq f 23 with
  | true => some (false, ghF [.fzP 0 [1] ft3, .fzP 0 [2] ft4] (t23 fu))
  | false => (tb27 fu) f
theorem tb23_sound (fu : Nat) : SoundF' Try.prog (tb23 fu) := by
  intro f own told h
  unfold tb23 at h
  split at h
  · rename_i hb
    cases h
    have := Nat.eq_of_beq_eq_true hb
    subst this
    exact ghF_sound (s23 fu)
  · exact (tb27_sound fu) f own told h

end Go.Proofs.Ytdoikghgblohjaa.V

/- Printed by ugen: bytes.Equal -/
namespace Go.Proofs.Ytdoikghgblohjaa.V
set_option maxRecDepth 100000


noncomputable def c31 : Code := match Try.f31.body with | some c => c | none => .skip

noncomputable def F31 {R : Type} (fu : Nat) (a : List (List D)) (b : List (List D)) (k0 : Bool → Option R) : Option R :=
  (k0 (strEq (strOf a) (strOf b)))

noncomputable def pc31 (fu : Nat) : Nat → Option ToldP := fun _ => none
noncomputable def t31 (fu : Nat) : ToldF := fun _ args s K => match args, s with
  | [.fz zq0 a false, .fz zq1 b false], [] => (match FT.sames zq0 ft0 with | true => (match FT.sames zq1 ft0 with | true => F31 fu a b (fun o => K (.bool o) []) | false => none) | false => none)
  | _, _ => none

theorem e31 (R : Type) (K : UV → USt → Option R) (fu : Nat) (a : List (List D)) (b : List (List D)) :
    F31 fu a b (fun o => K (.bool o) []) = ufun Try.prog ⟨(tb23 fu), pc31 fu⟩ 300 31 [.fz ft0 a false, .fz ft0 b false] [] (funK 0 [.gc] K) := by kernel_rfl

theorem s31 (fu : Nat) : Tells Try.prog 31 (t31 fu) := by
  refine ufun_sound (T := ⟨(tb23 fu), pc31 fu⟩) (m := 0) (gout := [.gc]) (k := 300) (tb23_sound fu) (fun fn body hf hb => ?_) (fun R args s K r h => ?_) (fun R args s K r h => ?_)
  · have hc : body = c31 := by
      have h1 : Try.prog.funcs[31]? = some Try.f31 := rfl
      rw [h1] at hf; cases hf
      have h2 : Try.f31.body = some c31 := rfl
      rw [h2] at hb; cases hb; rfl
    subst hc
    exact SoundPc.none _ _ _
  · unfold t31 at h; split at h
    · rfl
    · cases h
  · unfold t31 at h; split at h
    case h_2 => cases h
    split at h
    case h_2 => cases h
    rename_i hq
    have hq := FT.sames_eq _ _ hq
    subst hq
    split at h
    case h_2 => cases h
    rename_i hq
    have hq := FT.sames_eq _ _ hq
    subst hq
    exact (e31 R K fu _ _).symm.trans h

noncomputable def tb31 (fu : Nat) : FuncId → Option (Bool × ToldF) := fun f => match Nat.beq f 31 with
  | true => some (false, ghF [.fzP 0 [] ft0, .fzP 1 [] ft0] (t31 fu))
  | false => (tb23 fu) f
theorem tb31_sound (fu : Nat) : SoundF' Try.prog (tb31 fu) := by
  intro f own told h
  unfold tb31 at h
  split at h
  · rename_i hb
    cases h
    have := Nat.eq_of_beq_eq_true hb
    subst this
    exact ghF_sound (s31 fu)
  · exact (tb23_sound fu) f own told h

end Go.Proofs.Ytdoikghgblohjaa.V

/- Printed by ugen: daisychain/daisychainlaw10.SameCmd -/
namespace Go.Proofs.Ytdoikghgblohjaa.V
set_option maxRecDepth 100000


noncomputable def c26 : Code := match Try.f26.body with | some c => c | none => .skip
theorem a26_58 : codeAt c26 58 = some (.loop (loopBody (codeAt c26 58))) := by kernel_rfl
noncomputable def F26_58 {R : Type} (fu : Nat) (x : Int) (a15 : List (List D)) (b15 : List (List D)) : Nat → Int → (Option R) → (Option R) → Option R
  | 0, _, _, _ => none
  | n + 1, x1, k0, k1 => bif decide (x1 < x) then bif within x1 a15.length then bif within x1 b15.length then bif !strEq (cell 0 (elem x1.toNat a15)).toStr (cell 0 (elem x1.toNat b15)).toStr then (k0) else (F26_58 fu x a15 b15 n (IntKind.i64.wrap (x1 + 1)) k0 k1) else none else none else (k1)

noncomputable def t26_58 (fu n : Nat) : ToldP := fun _ e s K => match e, s with
  | [.undef, .undef, .ptr 0 0, .ptr 1 0, .undef, .undef, .undef, .undef, .undef, .undef, .undef, .undef, .undef, .undef, .undef, .undef, .int .i64 x, .int .i64 x1], [.obj [.int .i64 a, .int .i64 a1, .int .i64 a2, .str a3, .int .i64 a4, .int .i64 a5, .int .i64 a6, .int .i64 a7, .int .i64 a8, .str a9, .bool a10, .str a11, .str a12, .str a13, .str a14, .fz zq0 a15 false, .int .i64 a16, .int .i64 a17], .obj [.int .i64 b, .int .i64 b1, .int .i64 b2, .str b3, .int .i64 b4, .int .i64 b5, .int .i64 b6, .int .i64 b7, .int .i64 b8, .str b9, .bool b10, .str b11, .str b12, .str b13, .str b14, .fz zq1 b15 false, .int .i64 b16, .int .i64 b17]] => (match FT.sames zq0 ft2 with | true => (match FT.sames zq1 ft2 with | true => F26_58 fu x a15 b15 n x1 (K .ret [.undef, .undef, .ptr 0 0, .ptr 1 0, .bool (false), .undef, .undef, .undef, .undef, .undef, .undef, .undef, .undef, .undef, .undef, .undef, .undef, .undef, .undef, .undef, .undef, .undef, .undef, .undef, .undef, .undef, .undef, .undef, .undef, .undef, .undef, .undef, .undef, .undef, .undef, .undef, .undef, .undef, .undef, .undef, .undef, .undef, .undef, .undef, .undef, .undef, .undef, .undef, .undef, .undef, .undef, .undef, .undef, .undef, .undef, .undef, .undef, .undef, .undef, .undef, .undef, .undef, .undef, .undef, .undef, .undef, .undef, .undef, .undef, .undef, .undef, .undef, .undef, .undef, .undef, .undef, .undef, .undef, .undef, .undef, .undef, .undef, .undef, .undef, .undef, .undef, .undef, .undef, .undef, .undef, .undef, .undef, .undef, .undef, .undef, .undef, .undef, .undef, .undef, .undef, .undef, .undef, .undef, .undef, .undef, .undef, .undef] [.obj [.int .i64 (a), .int .i64 (a1), .int .i64 (a2), .str (a3), .int .i64 (a4), .int .i64 (a5), .int .i64 (a6), .int .i64 (a7), .int .i64 (a8), .str (a9), .bool (a10), .str (a11), .str (a12), .str (a13), .str (a14), .fz ft2 (a15) false, .int .i64 (a16), .int .i64 (a17)], .obj [.int .i64 (b), .int .i64 (b1), .int .i64 (b2), .str (b3), .int .i64 (b4), .int .i64 (b5), .int .i64 (b6), .int .i64 (b7), .int .i64 (b8), .str (b9), .bool (b10), .str (b11), .str (b12), .str (b13), .str (b14), .fz ft2 (b15) false, .int .i64 (b16), .int .i64 (b17)]]) (K (.exit 0) [.undef, .undef, .ptr 0 0, .ptr 1 0, .undef, .undef, .undef, .undef, .undef, .undef, .undef, .undef, .undef, .undef, .undef, .undef, .undef, .undef, .undef, .undef, .undef, .undef, .undef, .undef, .undef, .undef, .undef, .undef, .undef, .undef, .undef, .undef, .undef, .undef, .undef, .undef, .undef, .undef, .undef, .undef, .undef, .undef, .undef, .undef, .undef, .undef, .undef, .undef, .undef, .undef, .undef, .undef, .undef, .undef, .undef, .undef, .undef, .undef, .undef, .undef, .undef, .undef, .undef, .undef, .undef, .undef, .undef, .undef, .undef, .undef, .undef, .undef, .undef, .undef, .undef, .undef, .undef, .undef, .undef, .undef, .undef, .undef, .undef, .undef, .undef, .undef, .undef, .undef, .undef, .undef, .undef, .undef, .undef, .undef, .undef, .undef, .undef, .undef, .undef, .undef, .undef, .undef, .undef, .undef, .undef, .undef, .undef] [.obj [.int .i64 (a), .int .i64 (a1), .int .i64 (a2), .str (a3), .int .i64 (a4), .int .i64 (a5), .int .i64 (a6), .int .i64 (a7), .int .i64 (a8), .str (a9), .bool (a10), .str (a11), .str (a12), .str (a13), .str (a14), .fz ft2 (a15) false, .int .i64 (a16), .int .i64 (a17)], .obj [.int .i64 (b), .int .i64 (b1), .int .i64 (b2), .str (b3), .int .i64 (b4), .int .i64 (b5), .int .i64 (b6), .int .i64 (b7), .int .i64 (b8), .str (b9), .bool (b10), .str (b11), .str (b12), .str (b13), .str (b14), .fz ft2 (b15) false, .int .i64 (b16), .int .i64 (b17)]]) | false => none) | false => none)
  | _, _ => none

noncomputable def pc26_58 (fu : Nat) : Nat → Option ToldP := fun _ => none
theorem e26_58 (fu n : Nat) (R : Type) (K : VExit → UEnv → USt → Option R) (x : Int) (x1 : Int) (a : Int) (a1 : Int) (a2 : Int) (a3 : ByteArray) (a4 : Int) (a5 : Int) (a6 : Int) (a7 : Int) (a8 : Int) (a9 : ByteArray) (a10 : Bool) (a11 : ByteArray) (a12 : ByteArray) (a13 : ByteArray) (a14 : ByteArray) (a15 : List (List D)) (a16 : Int) (a17 : Int) (b : Int) (b1 : Int) (b2 : Int) (b3 : ByteArray) (b4 : Int) (b5 : Int) (b6 : Int) (b7 : Int) (b8 : Int) (b9 : ByteArray) (b10 : Bool) (b11 : ByteArray) (b12 : ByteArray) (b13 : ByteArray) (b14 : ByteArray) (b15 : List (List D)) (b16 : Int) (b17 : Int) :
    F26_58 fu x a15 b15 (n + 1) x1 (K .ret [.undef, .undef, .ptr 0 0, .ptr 1 0, .bool (false), .undef, .undef, .undef, .undef, .undef, .undef, .undef, .undef, .undef, .undef, .undef, .undef, .undef, .undef, .undef, .undef, .undef, .undef, .undef, .undef, .undef, .undef, .undef, .undef, .undef, .undef, .undef, .undef, .undef, .undef, .undef, .undef, .undef, .undef, .undef, .undef, .undef, .undef, .undef, .undef, .undef, .undef, .undef, .undef, .undef, .undef, .undef, .undef, .undef, .undef, .undef, .undef, .undef, .undef, .undef, .undef, .undef, .undef, .undef, .undef, .undef, .undef, .undef, .undef, .undef, .undef, .undef, .undef, .undef, .undef, .undef, .undef, .undef, .undef, .undef, .undef, .undef, .undef, .undef, .undef, .undef, .undef, .undef, .undef, .undef, .undef, .undef, .undef, .undef, .undef, .undef, .undef, .undef, .undef, .undef, .undef, .undef, .undef, .undef, .undef, .undef, .undef] [.obj [.int .i64 (a), .int .i64 (a1), .int .i64 (a2), .str (a3), .int .i64 (a4), .int .i64 (a5), .int .i64 (a6), .int .i64 (a7), .int .i64 (a8), .str (a9), .bool (a10), .str (a11), .str (a12), .str (a13), .str (a14), .fz ft2 (a15) false, .int .i64 (a16), .int .i64 (a17)], .obj [.int .i64 (b), .int .i64 (b1), .int .i64 (b2), .str (b3), .int .i64 (b4), .int .i64 (b5), .int .i64 (b6), .int .i64 (b7), .int .i64 (b8), .str (b9), .bool (b10), .str (b11), .str (b12), .str (b13), .str (b14), .fz ft2 (b15) false, .int .i64 (b16), .int .i64 (b17)]]) (K (.exit 0) [.undef, .undef, .ptr 0 0, .ptr 1 0, .undef, .undef, .undef, .undef, .undef, .undef, .undef, .undef, .undef, .undef, .undef, .undef, .undef, .undef, .undef, .undef, .undef, .undef, .undef, .undef, .undef, .undef, .undef, .undef, .undef, .undef, .undef, .undef, .undef, .undef, .undef, .undef, .undef, .undef, .undef, .undef, .undef, .undef, .undef, .undef, .undef, .undef, .undef, .undef, .undef, .undef, .undef, .undef, .undef, .undef, .undef, .undef, .undef, .undef, .undef, .undef, .undef, .undef, .undef, .undef, .undef, .undef, .undef, .undef, .undef, .undef, .undef, .undef, .undef, .undef, .undef, .undef, .undef, .undef, .undef, .undef, .undef, .undef, .undef, .undef, .undef, .undef, .undef, .undef, .undef, .undef, .undef, .undef, .undef, .undef, .undef, .undef, .undef, .undef, .undef, .undef, .undef, .undef, .undef, .undef, .undef, .undef, .undef] [.obj [.int .i64 (a), .int .i64 (a1), .int .i64 (a2), .str (a3), .int .i64 (a4), .int .i64 (a5), .int .i64 (a6), .int .i64 (a7), .int .i64 (a8), .str (a9), .bool (a10), .str (a11), .str (a12), .str (a13), .str (a14), .fz ft2 (a15) false, .int .i64 (a16), .int .i64 (a17)], .obj [.int .i64 (b), .int .i64 (b1), .int .i64 (b2), .str (b3), .int .i64 (b4), .int .i64 (b5), .int .i64 (b6), .int .i64 (b7), .int .i64 (b8), .str (b9), .bool (b10), .str (b11), .str (b12), .str (b13), .str (b14), .fz ft2 (b15) false, .int .i64 (b16), .int .i64 (b17)]]) = uexec Try.prog (tb31 fu) 300 (pc26_58 fu) 116 (loopBody (codeAt c26 58)) [.undef, .undef, .ptr 0 0, .ptr 1 0, .undef, .undef, .undef, .undef, .undef, .undef, .undef, .undef, .undef, .undef, .undef, .undef, .int .i64 x, .int .i64 x1] [.obj [.int .i64 a, .int .i64 a1, .int .i64 a2, .str a3, .int .i64 a4, .int .i64 a5, .int .i64 a6, .int .i64 a7, .int .i64 a8, .str a9, .bool a10, .str a11, .str a12, .str a13, .str a14, .fz ft2 a15 false, .int .i64 a16, .int .i64 a17], .obj [.int .i64 b, .int .i64 b1, .int .i64 b2, .str b3, .int .i64 b4, .int .i64 b5, .int .i64 b6, .int .i64 b7, .int .i64 b8, .str b9, .bool b10, .str b11, .str b12, .str b13, .str b14, .fz ft2 b15 false, .int .i64 b16, .int .i64 b17]] (loopK 0 [.live [false, false, true, true, false, false, false, false, false, false, false, false, false, false, false, false, true, true], .gc, .fzC 0 15 ft2, .fzC 1 15 ft2, .gc] [.live [false, false, true, true, true, false, false, false, false, false, false, false, false, false, false, false, false, false, false, false, false, false, false, false, false, false, false, false, false, false, false, false, false, false, false, false, false, false, true, true, true, true, true, false, false, true, true, true, true, true, false, false, true, true, true, true, true, false, false, true, true, true, true, true, false, false, true, true, true, true, true, false, false, false, true, true, true, true, true, false, false, true, true, true, true, true, false, false, true, true, true, true, true, false, false, true, true, true, true, true, false, false, true, true, true, true, true], .gc] (t26_58 fu n) K) := by kernel_rfl

theorem p26_58 (fu : Nat) : SoundPc Try.prog 0 c26 (pc26_58 fu) := SoundPc.none _ _ _
theorem s26_58 (fu : Nat) : ∀ n, SoundP Try.prog 0 (.loop (loopBody (codeAt c26 58))) (t26_58 fu n) := by
  refine loop_sound (gin := [.live [false, false, true, true, false, false, false, false, false, false, false, false, false, false, false, false, true, true], .gc, .fzC 0 15 ft2, .fzC 1 15 ft2, .gc]) (gout := [.live [false, false, true, true, true, false, false, false, false, false, false, false, false, false, false, false, false, false, false, false, false, false, false, false, false, false, false, false, false, false, false, false, false, false, false, false, false, false, true, true, true, true, true, false, false, true, true, true, true, true, false, false, true, true, true, true, true, false, false, true, true, true, true, true, false, false, true, true, true, true, true, false, false, false, true, true, true, true, true, false, false, true, true, true, true, true, false, false, true, true, true, true, true, false, false, true, true, true, true, true, false, false, true, true, true, true, true], .gc]) (k := 300) (tb31_sound fu) (p26_58 fu) (by decide) a26_58 (fun R e s K => ?_) (fun n R e s K r h => ?_)
  · unfold t26_58; repeat' split
    all_goals rfl
  · unfold t26_58 at h; split at h
    case h_2 => cases h
    split at h
    case h_2 => cases h
    rename_i hq
    have hq := FT.sames_eq _ _ hq
    subst hq
    split at h
    case h_2 => cases h
    rename_i hq
    have hq := FT.sames_eq _ _ hq
    subst hq
    exact (e26_58 fu n R K _ _ _ _ _ _ _ _ _ _ _ _ _ _ _ _ _ _ _ _ _ _ _ _ _ _ _ _ _ _ _ _ _ _ _ _ _ _).symm.trans h


noncomputable def F26 {R : Type} (fu : Nat) (a : List D) (b : List D) (k0 : Bool → Option R) : Option R :=
  bif !decide (ofN (cell 15 a).toRows.length = ofN (cell 15 b).toRows.length) then (k0 false) else F26_58 fu (ofN (cell 15 a).toRows.length) (cell 15 a).toRows (cell 15 b).toRows fu 0 ((k0 false)) (bif decide ((cell 0 a).toInt = (cell 0 b).toInt) then bif decide ((cell 1 a).toInt = (cell 1 b).toInt) then bif decide ((cell 2 a).toInt = (cell 2 b).toInt) then bif decide ((cell 16 a).toInt = (cell 16 b).toInt) then bif decide ((cell 17 a).toInt = (cell 17 b).toInt) then bif decide ((cell 4 a).toInt = (cell 4 b).toInt) && (decide ((cell 5 a).toInt = (cell 5 b).toInt) && (decide ((cell 6 a).toInt = (cell 6 b).toInt) && (decide ((cell 7 a).toInt = (cell 7 b).toInt) && (decide ((cell 8 a).toInt = (cell 8 b).toInt) && (strEq (cell 9 a).toStr (cell 9 b).toStr && ((cell 10 a).toBool == (cell 10 b).toBool && true)))))) then bif strEq (cell 3 a).toStr (cell 3 b).toStr then bif strEq (cell 11 a).toStr (cell 11 b).toStr then bif strEq (cell 12 a).toStr (cell 12 b).toStr then bif strEq (cell 13 a).toStr (cell 13 b).toStr then (k0 (strEq (cell 14 a).toStr (cell 14 b).toStr)) else (k0 false) else (k0 false) else (k0 false) else (k0 false) else (k0 false) else (k0 false) else (k0 false) else (k0 false) else (k0 false) else (k0 false))

noncomputable def pc26 (fu : Nat) : Nat → Option ToldP := fun p => match Nat.beq p 58 with | true => some (ghP 0 [.live [false, false, true, true, false, false, false, false, false, false, false, false, false, false, false, false, true, true], .gc, .fzC 0 15 ft2, .fzC 1 15 ft2, .gc] (t26_58 fu fu)) | false => none
noncomputable def t26 (fu : Nat) : ToldF := fun _ args s K => match args, s with
  | [.agg [.int .i64 q, .int .i64 q1, .int .i64 q2, .str q3, .int .i64 q4, .int .i64 q5, .int .i64 q6, .int .i64 q7, .int .i64 q8, .str q9, .bool q10, .str q11, .str q12, .str q13, .str q14, .fz zq0 q15 false, .int .i64 q16, .int .i64 q17], .agg [.int .i64 q18, .int .i64 q19, .int .i64 q20, .str q21, .int .i64 q22, .int .i64 q23, .int .i64 q24, .int .i64 q25, .int .i64 q26, .str q27, .bool q28, .str q29, .str q30, .str q31, .str q32, .fz zq1 q33 false, .int .i64 q34, .int .i64 q35]], [] => (match FT.sames zq0 ft2 with | true => (match FT.sames zq1 ft2 with | true => F26 fu [D.int q, D.int q1, D.int q2, D.str q3, D.int q4, D.int q5, D.int q6, D.int q7, D.int q8, D.str q9, D.bool q10, D.str q11, D.str q12, D.str q13, D.str q14, D.row q15, D.int q16, D.int q17] [D.int q18, D.int q19, D.int q20, D.str q21, D.int q22, D.int q23, D.int q24, D.int q25, D.int q26, D.str q27, D.bool q28, D.str q29, D.str q30, D.str q31, D.str q32, D.row q33, D.int q34, D.int q35] (fun o => K (.bool o) []) | false => none) | false => none)
  | _, _ => none

theorem e26 (R : Type) (K : UV → USt → Option R) (fu : Nat) (q : Int) (q1 : Int) (q2 : Int) (q3 : ByteArray) (q4 : Int) (q5 : Int) (q6 : Int) (q7 : Int) (q8 : Int) (q9 : ByteArray) (q10 : Bool) (q11 : ByteArray) (q12 : ByteArray) (q13 : ByteArray) (q14 : ByteArray) (q15 : List (List D)) (q16 : Int) (q17 : Int) (q18 : Int) (q19 : Int) (q20 : Int) (q21 : ByteArray) (q22 : Int) (q23 : Int) (q24 : Int) (q25 : Int) (q26 : Int) (q27 : ByteArray) (q28 : Bool) (q29 : ByteArray) (q30 : ByteArray) (q31 : ByteArray) (q32 : ByteArray) (q33 : List (List D)) (q34 : Int) (q35 : Int) :
    F26 fu [D.int q, D.int q1, D.int q2, D.str q3, D.int q4, D.int q5, D.int q6, D.int q7, D.int q8, D.str q9, D.bool q10, D.str q11, D.str q12, D.str q13, D.str q14, D.row q15, D.int q16, D.int q17] [D.int q18, D.int q19, D.int q20, D.str q21, D.int q22, D.int q23, D.int q24, D.int q25, D.int q26, D.str q27, D.bool q28, D.str q29, D.str q30, D.str q31, D.str q32, D.row q33, D.int q34, D.int q35] (fun o => K (.bool o) []) = ufun Try.prog ⟨(tb31 fu), pc26 fu⟩ 300 26 [.agg [.int .i64 q, .int .i64 q1, .int .i64 q2, .str q3, .int .i64 q4, .int .i64 q5, .int .i64 q6, .int .i64 q7, .int .i64 q8, .str q9, .bool q10, .str q11, .str q12, .str q13, .str q14, .fz ft2 q15 false, .int .i64 q16, .int .i64 q17], .agg [.int .i64 q18, .int .i64 q19, .int .i64 q20, .str q21, .int .i64 q22, .int .i64 q23, .int .i64 q24, .int .i64 q25, .int .i64 q26, .str q27, .bool q28, .str q29, .str q30, .str q31, .str q32, .fz ft2 q33 false, .int .i64 q34, .int .i64 q35]] [] (funK 0 [.gc] K) := by kernel_rfl

theorem s26 (fu : Nat) : Tells Try.prog 26 (t26 fu) := by
  refine ufun_sound (T := ⟨(tb31 fu), pc26 fu⟩) (m := 0) (gout := [.gc]) (k := 300) (tb31_sound fu) (fun fn body hf hb => ?_) (fun R args s K r h => ?_) (fun R args s K r h => ?_)
  · have hc : body = c26 := by
      have h1 : Try.prog.funcs[26]? = some Try.f26 := rfl
      rw [h1] at hf; cases hf
      have h2 : Try.f26.body = some c26 := rfl
      rw [h2] at hb; cases hb; rfl
    subst hc
    exact fun p told h b hb => by
      replace h : pc26 fu p = some told := h
      unfold pc26 at h
      split at h
      · rename_i hp
        cases h
        have := Nat.eq_of_beq_eq_true hp
        subst this
        rw [a26_58] at hb
        cases hb
        exact ghP_sound (s26_58 fu _)
      ·
        cases h

  · unfold t26 at h; split at h
    · rfl
    · cases h
  · unfold t26 at h; split at h
    case h_2 => cases h
    split at h
    case h_2 => cases h
    rename_i hq
    have hq := FT.sames_eq _ _ hq
    subst hq
    split at h
    case h_2 => cases h
    rename_i hq
    have hq := FT.sames_eq _ _ hq
    subst hq
    exact (e26 R K fu _ _ _ _ _ _ _ _ _ _ _ _ _ _ _ _ _ _ _ _ _ _ _ _ _ _ _ _ _ _ _ _ _ _ _ _).symm.trans h

noncomputable def tb26 (fu : Nat) : FuncId → Option (Bool × ToldF) := fun f => match Nat.beq f 26 with
  | true => some (false, ghF [.fzP 0 [15] ft2, .fzP 1 [15] ft2] (t26 fu))
  | false => (tb31 fu) f
theorem tb26_sound (fu : Nat) : SoundF' Try.prog (tb26 fu) := by
  intro f own told h
  unfold tb26 at h
  split at h
  · rename_i hb
    cases h
    have := Nat.eq_of_beq_eq_true hb
    subst this
    exact ghF_sound (s26 fu)
  · exact (tb31_sound fu) f own told h

end Go.Proofs.Ytdoikghgblohjaa.V

/- Printed by ugen: daisychain/daisychainlaw09.Alike -/
namespace Go.Proofs.Ytdoikghgblohjaa.V
set_option maxRecDepth 100000


noncomputable def c22 : Code := match Try.f22.body with | some c => c | none => .skip
theorem a22_58 : codeAt c22 58 = some (.loop (loopBody (codeAt c22 58))) := by kernel_rfl
noncomputable def F22_58 {R : Type} (fu : Nat) (x : Int) (a1 : List (List D)) (b1 : List (List D)) : Nat → Int → (Option R) → (Option R) → Option R
  | 0, _, _, _ => none
  | n + 1, x1, k0, k1 => bif decide (x1 < x) then bif within x1 a1.length then bif within x1 b1.length then bif !decide ((cell 0 (elem x1.toNat a1)).toInt = (cell 0 (elem x1.toNat b1)).toInt) then (k0) else (F22_58 fu x a1 b1 n (IntKind.i64.wrap (x1 + 1)) k0 k1) else none else none else (k1)

noncomputable def t22_58 (fu n : Nat) : ToldP := fun _ e s K => match e, s with
  | (.undef :: .undef :: .ptr 0 0 :: .ptr 1 0 :: .undef :: .undef :: .undef :: .undef :: .undef :: .undef :: .undef :: .undef :: .undef :: .undef :: .undef :: .undef :: .undef :: .undef :: .undef :: .undef :: .undef :: .undef :: .undef :: .undef :: .undef :: .undef :: .undef :: .undef :: .undef :: .undef :: .undef :: .undef :: .int .i64 x :: .int .i64 x1 :: []), [.obj [.int .i64 a, .fz zq0 a1 false, .fz zq1 a2 false], .obj [.int .i64 b, .fz zq2 b1 false, .fz zq3 b2 false]] => (match FT.sames zq0 ft3 with | true => (match FT.sames zq1 ft4 with | true => (match FT.sames zq2 ft3 with | true => (match FT.sames zq3 ft4 with | true => F22_58 fu x a1 b1 n x1 (K .ret [.undef, .undef, .ptr 0 0, .ptr 1 0, .bool (false)] [.obj [.int .i64 (a), .fz ft3 (a1) false, .fz ft4 (a2) false], .obj [.int .i64 (b), .fz ft3 (b1) false, .fz ft4 (b2) false]]) (K (.exit 0) [.undef, .undef, .ptr 0 0, .ptr 1 0, .undef] [.obj [.int .i64 (a), .fz ft3 (a1) false, .fz ft4 (a2) false], .obj [.int .i64 (b), .fz ft3 (b1) false, .fz ft4 (b2) false]]) | false => none) | false => none) | false => none) | false => none)
  | _, _ => none

noncomputable def pc22_58 (fu : Nat) : Nat → Option ToldP := fun _ => none
theorem e22_58 (fu n : Nat) (R : Type) (K : VExit → UEnv → USt → Option R) (x : Int) (x1 : Int) (a : Int) (a1 : List (List D)) (a2 : List (List D)) (b : Int) (b1 : List (List D)) (b2 : List (List D)) :
    F22_58 fu x a1 b1 (n + 1) x1 (K .ret [.undef, .undef, .ptr 0 0, .ptr 1 0, .bool (false)] [.obj [.int .i64 (a), .fz ft3 (a1) false, .fz ft4 (a2) false], .obj [.int .i64 (b), .fz ft3 (b1) false, .fz ft4 (b2) false]]) (K (.exit 0) [.undef, .undef, .ptr 0 0, .ptr 1 0, .undef] [.obj [.int .i64 (a), .fz ft3 (a1) false, .fz ft4 (a2) false], .obj [.int .i64 (b), .fz ft3 (b1) false, .fz ft4 (b2) false]]) = uexec Try.prog (tb26 fu) 300 (pc22_58 fu) 116 (loopBody (codeAt c22 58)) (.undef :: .undef :: .ptr 0 0 :: .ptr 1 0 :: .undef :: .undef :: .undef :: .undef :: .undef :: .undef :: .undef :: .undef :: .undef :: .undef :: .undef :: .undef :: .undef :: .undef :: .undef :: .undef :: .undef :: .undef :: .undef :: .undef :: .undef :: .undef :: .undef :: .undef :: .undef :: .undef :: .undef :: .undef :: .int .i64 x :: .int .i64 x1 :: []) [.obj [.int .i64 a, .fz ft3 a1 false, .fz ft4 a2 false], .obj [.int .i64 b, .fz ft3 b1 false, .fz ft4 b2 false]] (loopK 0 [.live (false :: false :: true :: true :: false :: false :: false :: false :: false :: false :: false :: false :: false :: false :: false :: false :: false :: false :: false :: false :: false :: false :: false :: false :: false :: false :: false :: false :: false :: false :: false :: false :: true :: true :: []), .gc, .fzC 0 1 ft3, .fzC 0 2 ft4, .fzC 1 1 ft3, .fzC 1 2 ft4, .gc] [.live [false, false, true, true, true], .gc] (t22_58 fu n) K) := by kernel_rfl

theorem p22_58 (fu : Nat) : SoundPc Try.prog 0 c22 (pc22_58 fu) := SoundPc.none _ _ _
theorem s22_58 (fu : Nat) : ∀ n, SoundP Try.prog 0 (.loop (loopBody (codeAt c22 58))) (t22_58 fu n) := by
  refine loop_sound (gin := [.live (false :: false :: true :: true :: false :: false :: false :: false :: false :: false :: false :: false :: false :: false :: false :: false :: false :: false :: false :: false :: false :: false :: false :: false :: false :: false :: false :: false :: false :: false :: false :: false :: true :: true :: []), .gc, .fzC 0 1 ft3, .fzC 0 2 ft4, .fzC 1 1 ft3, .fzC 1 2 ft4, .gc]) (gout := [.live [false, false, true, true, true], .gc]) (k := 300) (tb26_sound fu) (p22_58 fu) (by decide) a22_58 (fun R e s K => ?_) (fun n R e s K r h => ?_)
  · unfold t22_58; repeat' split
    all_goals rfl
  · unfold t22_58 at h; split at h
    case h_2 => cases h
    split at h
    case h_2 => cases h
    rename_i hq
    have hq := FT.sames_eq _ _ hq
    subst hq
    split at h
    case h_2 => cases h
    rename_i hq
    have hq := FT.sames_eq _ _ hq
    subst hq
    split at h
    case h_2 => cases h
    rename_i hq
    have hq := FT.sames_eq _ _ hq
    subst hq
    split at h
    case h_2 => cases h
    rename_i hq
    have hq := FT.sames_eq _ _ hq
    subst hq
    exact (e22_58 fu n R K _ _ _ _ _ _ _ _).symm.trans h

theorem a22_122 : codeAt c22 122 = some (.loop (loopBody (codeAt c22 122))) := by kernel_rfl
noncomputable def F22_122 {R : Type} (fu : Nat) (x : Int) (a2 : List (List D)) (b2 : List (List D)) : Nat → Int → (Option R) → (Option R) → Option R
  | 0, _, _, _ => none
  | n + 1, x1, k0, k1 => bif decide (x1 < x) then bif within x1 a2.length then bif within x1 b2.length then bif !(decide ((cell 0 (elem x1.toNat a2)).toInt = (cell 0 (elem x1.toNat b2)).toInt) && (decide ((cell 1 (elem x1.toNat a2)).toInt = (cell 1 (elem x1.toNat b2)).toInt) && (strEq (cell 2 (elem x1.toNat a2)).toStr (cell 2 (elem x1.toNat b2)).toStr && (strEq (cell 3 (elem x1.toNat a2)).toStr (cell 3 (elem x1.toNat b2)).toStr && (strEq (cell 4 (elem x1.toNat a2)).toStr (cell 4 (elem x1.toNat b2)).toStr && true))))) then (k0) else (F22_122 fu x a2 b2 n (IntKind.i64.wrap (x1 + 1)) k0 k1) else none else none else (k1)

noncomputable def t22_122 (fu n : Nat) : ToldP := fun _ e s K => match e, s with
  | (.undef :: .undef :: .ptr 0 0 :: .ptr 1 0 :: .undef :: .undef :: .undef :: .undef :: .undef :: .undef :: .undef :: .undef :: .undef :: .undef :: .undef :: .undef :: .undef :: .undef :: .undef :: .undef :: .undef :: .undef :: .undef :: .undef :: .undef :: .undef :: .undef :: .undef :: .undef :: .undef :: .undef :: .undef :: .undef :: .undef :: .undef :: .undef :: .undef :: .undef :: .undef :: .undef :: .undef :: .undef :: .undef :: .undef :: .undef :: .undef :: .undef :: .undef :: .undef :: .undef :: .int .i64 x :: .int .i64 x1 :: []), [.obj [.int .i64 a, .fz zq0 a1 false, .fz zq1 a2 false], .obj [.int .i64 b, .fz zq2 b1 false, .fz zq3 b2 false]] => (match FT.sames zq0 ft3 with | true => (match FT.sames zq1 ft4 with | true => (match FT.sames zq2 ft3 with | true => (match FT.sames zq3 ft4 with | true => F22_122 fu x a2 b2 n x1 (K .ret [.undef, .undef, .undef, .undef, .bool (false)] []) (K (.exit 2) [.undef, .undef, .undef, .undef, .undef] []) | false => none) | false => none) | false => none) | false => none)
  | _, _ => none

noncomputable def pc22_122 (fu : Nat) : Nat → Option ToldP := fun _ => none
theorem e22_122 (fu n : Nat) (R : Type) (K : VExit → UEnv → USt → Option R) (x : Int) (x1 : Int) (a : Int) (a1 : List (List D)) (a2 : List (List D)) (b : Int) (b1 : List (List D)) (b2 : List (List D)) :
    F22_122 fu x a2 b2 (n + 1) x1 (K .ret [.undef, .undef, .undef, .undef, .bool (false)] []) (K (.exit 2) [.undef, .undef, .undef, .undef, .undef] []) = uexec Try.prog (tb26 fu) 300 (pc22_122 fu) 244 (loopBody (codeAt c22 122)) (.undef :: .undef :: .ptr 0 0 :: .ptr 1 0 :: .undef :: .undef :: .undef :: .undef :: .undef :: .undef :: .undef :: .undef :: .undef :: .undef :: .undef :: .undef :: .undef :: .undef :: .undef :: .undef :: .undef :: .undef :: .undef :: .undef :: .undef :: .undef :: .undef :: .undef :: .undef :: .undef :: .undef :: .undef :: .undef :: .undef :: .undef :: .undef :: .undef :: .undef :: .undef :: .undef :: .undef :: .undef :: .undef :: .undef :: .undef :: .undef :: .undef :: .undef :: .undef :: .undef :: .int .i64 x :: .int .i64 x1 :: []) [.obj [.int .i64 a, .fz ft3 a1 false, .fz ft4 a2 false], .obj [.int .i64 b, .fz ft3 b1 false, .fz ft4 b2 false]] (loopK 0 [.live (false :: false :: true :: true :: false :: false :: false :: false :: false :: false :: false :: false :: false :: false :: false :: false :: false :: false :: false :: false :: false :: false :: false :: false :: false :: false :: false :: false :: false :: false :: false :: false :: false :: false :: false :: false :: false :: false :: false :: false :: false :: false :: false :: false :: false :: false :: false :: false :: false :: false :: true :: true :: []), .gc, .fzC 0 1 ft3, .fzC 0 2 ft4, .fzC 1 1 ft3, .fzC 1 2 ft4, .gc] [.live [false, false, false, false, true], .gc] (t22_122 fu n) K) := by kernel_rfl

theorem p22_122 (fu : Nat) : SoundPc Try.prog 0 c22 (pc22_122 fu) := SoundPc.none _ _ _
theorem s22_122 (fu : Nat) : ∀ n, SoundP Try.prog 0 (.loop (loopBody (codeAt c22 122))) (t22_122 fu n) := by
  refine loop_sound (gin := [.live (false :: false :: true :: true :: false :: false :: false :: false :: false :: false :: false :: false :: false :: false :: false :: false :: false :: false :: false :: false :: false :: false :: false :: false :: false :: false :: false :: false :: false :: false :: false :: false :: false :: false :: false :: false :: false :: false :: false :: false :: false :: false :: false :: false :: false :: false :: false :: false :: false :: false :: true :: true :: []), .gc, .fzC 0 1 ft3, .fzC 0 2 ft4, .fzC 1 1 ft3, .fzC 1 2 ft4, .gc]) (gout := [.live [false, false, false, false, true], .gc]) (k := 300) (tb26_sound fu) (p22_122 fu) (by decide) a22_122 (fun R e s K => ?_) (fun n R e s K r h => ?_)
  · unfold t22_122; repeat' split
    all_goals rfl
  · unfold t22_122 at h; split at h
    case h_2 => cases h
    split at h
    case h_2 => cases h
    rename_i hq
    have hq := FT.sames_eq _ _ hq
    subst hq
    split at h
    case h_2 => cases h
    rename_i hq
    have hq := FT.sames_eq _ _ hq
    subst hq
    split at h
    case h_2 => cases h
    rename_i hq
    have hq := FT.sames_eq _ _ hq
    subst hq
    split at h
    case h_2 => cases h
    rename_i hq
    have hq := FT.sames_eq _ _ hq
    subst hq
    exact (e22_122 fu n R K _ _ _ _ _ _ _ _).symm.trans h


noncomputable def F22 {R : Type} (fu : Nat) (a : List D) (b : List D) (k0 : Bool → Option R) : Option R :=
  bif !decide ((cell 0 a).toInt = (cell 0 b).toInt) then (k0 false) else bif !decide (ofN (cell 1 a).toRows.length = ofN (cell 1 b).toRows.length) then (k0 false) else bif !decide (ofN (cell 2 a).toRows.length = ofN (cell 2 b).toRows.length) then (k0 false) else F22_58 fu (ofN (cell 1 a).toRows.length) (cell 1 a).toRows (cell 1 b).toRows fu 0 ((k0 false)) (F22_122 fu (ofN (cell 2 a).toRows.length) (cell 2 a).toRows (cell 2 b).toRows fu 0 ((k0 false)) ((k0 true)))

noncomputable def pc22 (fu : Nat) : Nat → Option ToldP := fun p => match Nat.beq p 58 with | true => some (ghP 0 [.live (false :: false :: true :: true :: false :: false :: false :: false :: false :: false :: false :: false :: false :: false :: false :: false :: false :: false :: false :: false :: false :: false :: false :: false :: false :: false :: false :: false :: false :: false :: false :: false :: true :: true :: []), .gc, .fzC 0 1 ft3, .fzC 0 2 ft4, .fzC 1 1 ft3, .fzC 1 2 ft4, .gc] (t22_58 fu fu)) | false => match Nat.beq p 122 with | true => some (ghP 0 [.live (false :: false :: true :: true :: false :: false :: false :: false :: false :: false :: false :: false :: false :: false :: false :: false :: false :: false :: false :: false :: false :: false :: false :: false :: false :: false :: false :: false :: false :: false :: false :: false :: false :: false :: false :: false :: false :: false :: false :: false :: false :: false :: false :: false :: false :: false :: false :: false :: false :: false :: true :: true :: []), .gc, .fzC 0 1 ft3, .fzC 0 2 ft4, .fzC 1 1 ft3, .fzC 1 2 ft4, .gc] (t22_122 fu fu)) | false => none
noncomputable def t22 (fu : Nat) : ToldF := fun _ args s K => match args, s with
  | [.agg [.int .i64 q, .fz zq0 q1 false, .fz zq1 q2 false], .agg [.int .i64 q3, .fz zq2 q4 false, .fz zq3 q5 false]], [] => (match FT.sames zq0 ft3 with | true => (match FT.sames zq1 ft4 with | true => (match FT.sames zq2 ft3 with | true => (match FT.sames zq3 ft4 with | true => F22 fu [D.int q, D.row q1, D.row q2] [D.int q3, D.row q4, D.row q5] (fun o => K (.bool o) []) | false => none) | false => none) | false => none) | false => none)
  | _, _ => none

theorem e22 (R : Type) (K : UV → USt → Option R) (fu : Nat) (q : Int) (q1 : List (List D)) (q2 : List (List D)) (q3 : Int) (q4 : List (List D)) (q5 : List (List D)) :
    F22 fu [D.int q, D.row q1, D.row q2] [D.int q3, D.row q4, D.row q5] (fun o => K (.bool o) []) = ufun Try.prog ⟨(tb26 fu), pc22 fu⟩ 300 22 [.agg [.int .i64 q, .fz ft3 q1 false, .fz ft4 q2 false], .agg [.int .i64 q3, .fz ft3 q4 false, .fz ft4 q5 false]] [] (funK 0 [.gc] K) := by kernel_rfl

theorem s22 (fu : Nat) : Tells Try.prog 22 (t22 fu) := by
  refine ufun_sound (T := ⟨(tb26 fu), pc22 fu⟩) (m := 0) (gout := [.gc]) (k := 300) (tb26_sound fu) (fun fn body hf hb => ?_) (fun R args s K r h => ?_) (fun R args s K r h => ?_)
  · have hc : body = c22 := by
      have h1 : Try.prog.funcs[22]? = some Try.f22 := rfl
      rw [h1] at hf; cases hf
      have h2 : Try.f22.body = some c22 := rfl
      rw [h2] at hb; cases hb; rfl
    subst hc
    exact fun p told h b hb => by
      replace h : pc22 fu p = some told := h
      unfold pc22 at h
      split at h
      · rename_i hp
        cases h
        have := Nat.eq_of_beq_eq_true hp
        subst this
        rw [a22_58] at hb
        cases hb
        exact ghP_sound (s22_58 fu _)
      ·
        split at h
        · rename_i hp
          cases h
          have := Nat.eq_of_beq_eq_true hp
          subst this
          rw [a22_122] at hb
          cases hb
          exact ghP_sound (s22_122 fu _)
        ·
          cases h

  · unfold t22 at h; split at h
    · rfl
    · cases h
  · unfold t22 at h; split at h
    case h_2 => cases h
    split at h
    case h_2 => cases h
    rename_i hq
    have hq := FT.sames_eq _ _ hq
    subst hq
    split at h
    case h_2 => cases h
    rename_i hq
    have hq := FT.sames_eq _ _ hq
    subst hq
    split at h
    case h_2 => cases h
    rename_i hq
    have hq := FT.sames_eq _ _ hq
    subst hq
    split at h
    case h_2 => cases h
    rename_i hq
    have hq := FT.sames_eq _ _ hq
    subst hq
    exact (e22 R K fu _ _ _ _ _ _).symm.trans h

noncomputable def tb22 (fu : Nat) : FuncId → Option (Bool × ToldF) := fun f => match Nat.beq f 22 with
  | true => some (false, ghF [.fzP 0 [1] ft3, .fzP 0 [2] ft4, .fzP 1 [1] ft3, .fzP 1 [2] ft4] (t22 fu))
  | false => (tb26 fu) f
theorem tb22_sound (fu : Nat) : SoundF' Try.prog (tb22 fu) := by
  intro f own told h
  unfold tb22 at h
  split at h
  · rename_i hb
    cases h
    have := Nat.eq_of_beq_eq_true hb
    subst this
    exact ghF_sound (s22 fu)
  · exact (tb26_sound fu) f own told h

end Go.Proofs.Ytdoikghgblohjaa.V

/- Printed by ugen: daisychain/daisychainlaw18.same -/
namespace Go.Proofs.Ytdoikghgblohjaa.V
set_option maxRecDepth 100000


noncomputable def c21 : Code := match Try.f21.body with | some c => c | none => .skip

noncomputable def F21 {R : Type} (fu : Nat) (a : List D) (b : List D) (k0 : Bool → Option R) : Option R :=
  F27 fu [D.int (cell 0 a).toInt, D.int (cell 1 a).toInt, D.int (cell 2 a).toInt, D.str (cell 3 a).toStr, D.int (cell 4 a).toInt, D.int (cell 5 a).toInt, D.int (cell 6 a).toInt, D.int (cell 7 a).toInt, D.int (cell 8 a).toInt, D.str (cell 9 a).toStr, D.bool (cell 10 a).toBool, D.str (cell 11 a).toStr, D.str (cell 12 a).toStr, D.str (cell 13 a).toStr, D.str (cell 14 a).toStr, D.row (cell 15 a).toRows, D.int (cell 16 a).toInt, D.int (cell 17 a).toInt] fun o0 => F27 fu [D.int (cell 0 b).toInt, D.int (cell 1 b).toInt, D.int (cell 2 b).toInt, D.str (cell 3 b).toStr, D.int (cell 4 b).toInt, D.int (cell 5 b).toInt, D.int (cell 6 b).toInt, D.int (cell 7 b).toInt, D.int (cell 8 b).toInt, D.str (cell 9 b).toStr, D.bool (cell 10 b).toBool, D.str (cell 11 b).toStr, D.str (cell 12 b).toStr, D.str (cell 13 b).toStr, D.str (cell 14 b).toStr, D.row (cell 15 b).toRows, D.int (cell 16 b).toInt, D.int (cell 17 b).toInt] fun o1 => F26 fu [D.int (cell 0 o0).toInt, D.int (cell 1 o0).toInt, D.int (cell 2 o0).toInt, D.str (cell 3 o0).toStr, D.int (cell 4 o0).toInt, D.int (cell 5 o0).toInt, D.int (cell 6 o0).toInt, D.int (cell 7 o0).toInt, D.int (cell 8 o0).toInt, D.str (cell 9 o0).toStr, D.bool (cell 10 o0).toBool, D.str (cell 11 o0).toStr, D.str (cell 12 o0).toStr, D.str (cell 13 o0).toStr, D.str (cell 14 o0).toStr, D.row (cell 15 o0).toRows, D.int (cell 16 o0).toInt, D.int (cell 17 o0).toInt] [D.int (cell 0 o1).toInt, D.int (cell 1 o1).toInt, D.int (cell 2 o1).toInt, D.str (cell 3 o1).toStr, D.int (cell 4 o1).toInt, D.int (cell 5 o1).toInt, D.int (cell 6 o1).toInt, D.int (cell 7 o1).toInt, D.int (cell 8 o1).toInt, D.str (cell 9 o1).toStr, D.bool (cell 10 o1).toBool, D.str (cell 11 o1).toStr, D.str (cell 12 o1).toStr, D.str (cell 13 o1).toStr, D.str (cell 14 o1).toStr, D.row (cell 15 o1).toRows, D.int (cell 16 o1).toInt, D.int (cell 17 o1).toInt] fun o2 => bif o2 then bif decide ((cell 18 a).toInt = (cell 18 b).toInt) then bif decide ((cell 19 a).toInt = (cell 19 b).toInt) then bif (cell 20 a).toBool == (cell 20 b).toBool then F23 fu [D.int (cell 21 a).toInt, D.row (cell 22 a).toRows, D.row (cell 23 a).toRows] fun o3 => F23 fu [D.int (cell 21 b).toInt, D.row (cell 22 b).toRows, D.row (cell 23 b).toRows] fun o4 => F22 fu [D.int (cell 0 o3).toInt, D.row (cell 1 o3).toRows, D.row (cell 2 o3).toRows] [D.int (cell 0 o4).toInt, D.row (cell 1 o4).toRows, D.row (cell 2 o4).toRows] fun o5 => (k0 o5) else (k0 false) else (k0 false) else (k0 false) else (k0 false)

noncomputable def pc21 (fu : Nat) : Nat → Option ToldP := fun _ => none
noncomputable def t21 (fu : Nat) : ToldF := fun _ args s K => match args, s with
  | [.agg (.int .i64 q :: .int .i64 q1 :: .int .i64 q2 :: .str q3 :: .int .i64 q4 :: .int .i64 q5 :: .int .i64 q6 :: .int .i64 q7 :: .int .i64 q8 :: .str q9 :: .bool q10 :: .str q11 :: .str q12 :: .str q13 :: .str q14 :: .fz zq0 q15 false :: .int .i64 q16 :: .int .i64 q17 :: .int .i64 q18 :: .int .i64 q19 :: .bool q20 :: .int .i64 q21 :: .fz zq1 q22 false :: .fz zq2 q23 false :: []), .agg (.int .i64 q24 :: .int .i64 q25 :: .int .i64 q26 :: .str q27 :: .int .i64 q28 :: .int .i64 q29 :: .int .i64 q30 :: .int .i64 q31 :: .int .i64 q32 :: .str q33 :: .bool q34 :: .str q35 :: .str q36 :: .str q37 :: .str q38 :: .fz zq3 q39 false :: .int .i64 q40 :: .int .i64 q41 :: .int .i64 q42 :: .int .i64 q43 :: .bool q44 :: .int .i64 q45 :: .fz zq4 q46 false :: .fz zq5 q47 false :: [])], [] => (match FT.sames zq0 ft2 with | true => (match FT.sames zq1 ft3 with | true => (match FT.sames zq2 ft4 with | true => (match FT.sames zq3 ft2 with | true => (match FT.sames zq4 ft3 with | true => (match FT.sames zq5 ft4 with | true => F21 fu ((D.int q :: D.int q1 :: D.int q2 :: D.str q3 :: D.int q4 :: D.int q5 :: D.int q6 :: D.int q7 :: D.int q8 :: D.str q9 :: D.bool q10 :: D.str q11 :: D.str q12 :: D.str q13 :: D.str q14 :: D.row q15 :: D.int q16 :: D.int q17 :: D.int q18 :: D.int q19 :: D.bool q20 :: D.int q21 :: D.row q22 :: D.row q23 :: [])) ((D.int q24 :: D.int q25 :: D.int q26 :: D.str q27 :: D.int q28 :: D.int q29 :: D.int q30 :: D.int q31 :: D.int q32 :: D.str q33 :: D.bool q34 :: D.str q35 :: D.str q36 :: D.str q37 :: D.str q38 :: D.row q39 :: D.int q40 :: D.int q41 :: D.int q42 :: D.int q43 :: D.bool q44 :: D.int q45 :: D.row q46 :: D.row q47 :: [])) (fun o => K (.bool o) []) | false => none) | false => none) | false => none) | false => none) | false => none) | false => none)
  | _, _ => none

theorem e21 (R : Type) (K : UV → USt → Option R) (fu : Nat) (q : Int) (q1 : Int) (q2 : Int) (q3 : ByteArray) (q4 : Int) (q5 : Int) (q6 : Int) (q7 : Int) (q8 : Int) (q9 : ByteArray) (q10 : Bool) (q11 : ByteArray) (q12 : ByteArray) (q13 : ByteArray) (q14 : ByteArray) (q15 : List (List D)) (q16 : Int) (q17 : Int) (q18 : Int) (q19 : Int) (q20 : Bool) (q21 : Int) (q22 : List (List D)) (q23 : List (List D)) (q24 : Int) (q25 : Int) (q26 : Int) (q27 : ByteArray) (q28 : Int) (q29 : Int) (q30 : Int) (q31 : Int) (q32 : Int) (q33 : ByteArray) (q34 : Bool) (q35 : ByteArray) (q36 : ByteArray) (q37 : ByteArray) (q38 : ByteArray) (q39 : List (List D)) (q40 : Int) (q41 : Int) (q42 : Int) (q43 : Int) (q44 : Bool) (q45 : Int) (q46 : List (List D)) (q47 : List (List D)) :
    F21 fu ((D.int q :: D.int q1 :: D.int q2 :: D.str q3 :: D.int q4 :: D.int q5 :: D.int q6 :: D.int q7 :: D.int q8 :: D.str q9 :: D.bool q10 :: D.str q11 :: D.str q12 :: D.str q13 :: D.str q14 :: D.row q15 :: D.int q16 :: D.int q17 :: D.int q18 :: D.int q19 :: D.bool q20 :: D.int q21 :: D.row q22 :: D.row q23 :: [])) ((D.int q24 :: D.int q25 :: D.int q26 :: D.str q27 :: D.int q28 :: D.int q29 :: D.int q30 :: D.int q31 :: D.int q32 :: D.str q33 :: D.bool q34 :: D.str q35 :: D.str q36 :: D.str q37 :: D.str q38 :: D.row q39 :: D.int q40 :: D.int q41 :: D.int q42 :: D.int q43 :: D.bool q44 :: D.int q45 :: D.row q46 :: D.row q47 :: [])) (fun o => K (.bool o) []) = ufun Try.prog ⟨(tb22 fu), pc21 fu⟩ 300 21 [.agg (.int .i64 q :: .int .i64 q1 :: .int .i64 q2 :: .str q3 :: .int .i64 q4 :: .int .i64 q5 :: .int .i64 q6 :: .int .i64 q7 :: .int .i64 q8 :: .str q9 :: .bool q10 :: .str q11 :: .str q12 :: .str q13 :: .str q14 :: .fz ft2 q15 false :: .int .i64 q16 :: .int .i64 q17 :: .int .i64 q18 :: .int .i64 q19 :: .bool q20 :: .int .i64 q21 :: .fz ft3 q22 false :: .fz ft4 q23 false :: []), .agg (.int .i64 q24 :: .int .i64 q25 :: .int .i64 q26 :: .str q27 :: .int .i64 q28 :: .int .i64 q29 :: .int .i64 q30 :: .int .i64 q31 :: .int .i64 q32 :: .str q33 :: .bool q34 :: .str q35 :: .str q36 :: .str q37 :: .str q38 :: .fz ft2 q39 false :: .int .i64 q40 :: .int .i64 q41 :: .int .i64 q42 :: .int .i64 q43 :: .bool q44 :: .int .i64 q45 :: .fz ft3 q46 false :: .fz ft4 q47 false :: [])] [] (funK 0 [.gc] K) := by kernel_rfl

theorem s21 (fu : Nat) : Tells Try.prog 21 (t21 fu) := by
  refine ufun_sound (T := ⟨(tb22 fu), pc21 fu⟩) (m := 0) (gout := [.gc]) (k := 300) (tb22_sound fu) (fun fn body hf hb => ?_) (fun R args s K r h => ?_) (fun R args s K r h => ?_)
  · have hc : body = c21 := by
      have h1 : Try.prog.funcs[21]? = some Try.f21 := rfl
      rw [h1] at hf; cases hf
      have h2 : Try.f21.body = some c21 := rfl
      rw [h2] at hb; cases hb; rfl
    subst hc
    exact SoundPc.none _ _ _
  · unfold t21 at h; split at h
    · rfl
    · cases h
  · unfold t21 at h; split at h
    case h_2 => cases h
    split at h
    case h_2 => cases h
    rename_i hq
    have hq := FT.sames_eq _ _ hq
    subst hq
    split at h
    case h_2 => cases h
    rename_i hq
    have hq := FT.sames_eq _ _ hq
    subst hq
    split at h
    case h_2 => cases h
    rename_i hq
    have hq := FT.sames_eq _ _ hq
    subst hq
    split at h
    case h_2 => cases h
    rename_i hq
    have hq := FT.sames_eq _ _ hq
    subst hq
    split at h
    case h_2 => cases h
    rename_i hq
    have hq := FT.sames_eq _ _ hq
    subst hq
    split at h
    case h_2 => cases h
    rename_i hq
    have hq := FT.sames_eq _ _ hq
    subst hq
    exact (e21 R K fu _ _ _ _ _ _ _ _ _ _ _ _ _ _ _ _ _ _ _ _ _ _ _ _ _ _ _ _ _ _ _ _ _ _ _ _ _ _ _ _ _ _ _ _ _ _ _ _).symm.trans h

noncomputable def tb21 (fu : Nat) : FuncId → Option (Bool × ToldF) := fun f => match Nat.beq f 21 with
  | true => some (false, ghF [.fzP 0 [15] ft2, .fzP 0 [22] ft3, .fzP 0 [23] ft4, .fzP 1 [15] ft2, .fzP 1 [22] ft3, .fzP 1 [23] ft4] (t21 fu))
  | false => (tb22 fu) f
theorem tb21_sound (fu : Nat) : SoundF' Try.prog (tb21 fu) := by
  intro f own told h
  unfold tb21 at h
  split at h
  · rename_i hb
    cases h
    have := Nat.eq_of_beq_eq_true hb
    subst this
    exact ghF_sound (s21 fu)
  · exact (tb22_sound fu) f own told h

end Go.Proofs.Ytdoikghgblohjaa.V

/- Printed by ugen: daisychain/daisychainlaw09.Few -/
namespace Go.Proofs.Ytdoikghgblohjaa.V
set_option maxRecDepth 100000


noncomputable def code15 : Code := match Try.f15.body with | some c => c | none => .skip
theorem a15_58 : codeAt code15 58 = some (.loop (loopBody (codeAt code15 58))) := by kernel_rfl
theorem a15_14926 : codeAt code15 14926 = some (.loop (loopBody (codeAt code15 14926))) := by kernel_rfl
noncomputable def F15_14926 {R : Type} (fu : Nat) (c15 : List (List D)) : Nat → Int → Int → (Int → Int → Bool → Option R) → (Int → Option R) → Option R
  | 0, _, _, _, _ => none
  | n + 1, n_, j, k0, k1 => bif decide (j < ofN c15.length) then bif decide (j ≤ 20) then bif within j c15.length then (F15_14926 fu c15 n (IntKind.i64.wrap (n_ + ofN (cell 0 (elem j.toNat c15)).toStr.size)) (IntKind.i64.wrap (j + 1)) k0 k1) else none else (k0 n_ j (decide (j ≤ 20))) else (k1 n_)

noncomputable def t15_14926 (fu n : Nat) : ToldP := fun _ e s K => match e, s with
  | [.fz zq0 l false, .undef, .undef, .int .i64 n_, .int .i64 k_, .ptr 0 0, .int .i64 j, .undef, .undef, .undef, .undef, .undef, .int .i64 x, .bool x1], [.obj (.int .i64 c :: .int .i64 c1 :: .int .i64 c2 :: .str c3 :: .int .i64 c4 :: .int .i64 c5 :: .int .i64 c6 :: .int .i64 c7 :: .int .i64 c8 :: .str c9 :: .bool c10 :: .str c11 :: .str c12 :: .str c13 :: .str c14 :: .fz zq1 c15 false :: .int .i64 c16 :: .int .i64 c17 :: [])] => (match FT.sames zq0 ft5 with | true => (match FT.sames zq1 ft2 with | true => F15_14926 fu c15 n n_ j (fun o o1 o2 => K (.exit 2) (.fz ft5 (l) false :: .undef :: .undef :: .int .i64 o :: .int .i64 (k_) :: .undef :: .undef :: .undef :: .undef :: .undef :: .undef :: .undef :: .int .i64 (x) :: .bool (x1) :: .undef :: .undef :: .undef :: .undef :: .undef :: .undef :: .undef :: .undef :: .undef :: .undef :: .undef :: .undef :: .undef :: .undef :: .undef :: .undef :: .undef :: .undef :: .undef :: .undef :: .undef :: .undef :: .undef :: .undef :: .undef :: .undef :: .undef :: .undef :: .undef :: .undef :: .undef :: .undef :: .undef :: .undef :: .undef :: .undef :: .undef :: .undef :: .undef :: .undef :: .undef :: .undef :: .undef :: .undef :: .int .i64 o1 :: .bool o2 :: .undef :: .undef :: .undef :: .undef :: .undef :: .undef :: .undef :: .undef :: .undef :: .undef :: .undef :: .undef :: .undef :: .undef :: .undef :: .undef :: .undef :: []) []) (fun o => K (.exit 2) (.fz ft5 (l) false :: .undef :: .undef :: .int .i64 o :: .int .i64 (k_) :: .undef :: .undef :: .undef :: .undef :: .undef :: .undef :: .undef :: .int .i64 (x) :: .bool (x1) :: .undef :: .undef :: .undef :: .undef :: .undef :: .undef :: .undef :: .undef :: .undef :: .undef :: .undef :: .undef :: .undef :: .undef :: .undef :: .undef :: .undef :: .undef :: .undef :: .undef :: .undef :: .undef :: .undef :: .undef :: .undef :: .undef :: .undef :: .undef :: .undef :: .undef :: .undef :: .undef :: .undef :: .undef :: .undef :: .undef :: .undef :: .undef :: .undef :: .undef :: .undef :: .undef :: .undef :: .undef :: .tuple [] :: .tuple [] :: .undef :: .undef :: .undef :: .undef :: .undef :: .undef :: .undef :: .undef :: .undef :: .undef :: .undef :: .undef :: .undef :: .undef :: .undef :: .undef :: .undef :: []) []) | false => none) | false => none)
  | _, _ => none

noncomputable def pc15_14926 (fu : Nat) : Nat → Option ToldP := fun _ => none
theorem e15_14926 (fu n : Nat) (R : Type) (K : VExit → UEnv → USt → Option R) (l : List (List D)) (n_ : Int) (k_ : Int) (j : Int) (x : Int) (x1 : Bool) (c : Int) (c1 : Int) (c2 : Int) (c3 : ByteArray) (c4 : Int) (c5 : Int) (c6 : Int) (c7 : Int) (c8 : Int) (c9 : ByteArray) (c10 : Bool) (c11 : ByteArray) (c12 : ByteArray) (c13 : ByteArray) (c14 : ByteArray) (c15 : List (List D)) (c16 : Int) (c17 : Int) :
    F15_14926 fu c15 (n + 1) n_ j (fun o o1 o2 => K (.exit 2) (.fz ft5 (l) false :: .undef :: .undef :: .int .i64 o :: .int .i64 (k_) :: .undef :: .undef :: .undef :: .undef :: .undef :: .undef :: .undef :: .int .i64 (x) :: .bool (x1) :: .undef :: .undef :: .undef :: .undef :: .undef :: .undef :: .undef :: .undef :: .undef :: .undef :: .undef :: .undef :: .undef :: .undef :: .undef :: .undef :: .undef :: .undef :: .undef :: .undef :: .undef :: .undef :: .undef :: .undef :: .undef :: .undef :: .undef :: .undef :: .undef :: .undef :: .undef :: .undef :: .undef :: .undef :: .undef :: .undef :: .undef :: .undef :: .undef :: .undef :: .undef :: .undef :: .undef :: .undef :: .int .i64 o1 :: .bool o2 :: .undef :: .undef :: .undef :: .undef :: .undef :: .undef :: .undef :: .undef :: .undef :: .undef :: .undef :: .undef :: .undef :: .undef :: .undef :: .undef :: .undef :: []) []) (fun o => K (.exit 2) (.fz ft5 (l) false :: .undef :: .undef :: .int .i64 o :: .int .i64 (k_) :: .undef :: .undef :: .undef :: .undef :: .undef :: .undef :: .undef :: .int .i64 (x) :: .bool (x1) :: .undef :: .undef :: .undef :: .undef :: .undef :: .undef :: .undef :: .undef :: .undef :: .undef :: .undef :: .undef :: .undef :: .undef :: .undef :: .undef :: .undef :: .undef :: .undef :: .undef :: .undef :: .undef :: .undef :: .undef :: .undef :: .undef :: .undef :: .undef :: .undef :: .undef :: .undef :: .undef :: .undef :: .undef :: .undef :: .undef :: .undef :: .undef :: .undef :: .undef :: .undef :: .undef :: .undef :: .undef :: .tuple [] :: .tuple [] :: .undef :: .undef :: .undef :: .undef :: .undef :: .undef :: .undef :: .undef :: .undef :: .undef :: .undef :: .undef :: .undef :: .undef :: .undef :: .undef :: .undef :: []) []) = uexec Try.prog (tb21 fu) 300 (pc15_14926 fu) 29852 (loopBody (codeAt code15 14926)) [.fz ft5 l false, .undef, .undef, .int .i64 n_, .int .i64 k_, .ptr 0 0, .int .i64 j, .undef, .undef, .undef, .undef, .undef, .int .i64 x, .bool x1] [.obj (.int .i64 c :: .int .i64 c1 :: .int .i64 c2 :: .str c3 :: .int .i64 c4 :: .int .i64 c5 :: .int .i64 c6 :: .int .i64 c7 :: .int .i64 c8 :: .str c9 :: .bool c10 :: .str c11 :: .str c12 :: .str c13 :: .str c14 :: .fz ft2 c15 false :: .int .i64 c16 :: .int .i64 c17 :: [])] (loopK 0 [.live [true, false, false, true, true, true, true, false, false, false, false, false, true, true], .fzP 0 [] ft5, .gc, .fzC 0 15 ft2, .gc] [.live (true :: false :: true :: true :: true :: false :: false :: false :: false :: false :: false :: false :: true :: true :: false :: false :: false :: false :: false :: false :: false :: false :: false :: false :: false :: false :: false :: false :: false :: false :: false :: false :: false :: false :: false :: false :: false :: false :: false :: false :: false :: false :: false :: false :: false :: false :: false :: false :: false :: false :: false :: false :: false :: false :: false :: false :: false :: false :: true :: true :: false :: false :: false :: false :: false :: false :: false :: false :: false :: false :: false :: false :: false :: false :: false :: true :: true :: []), .gc] (t15_14926 fu n) K) := by kernel_rfl

theorem p15_14926 (fu : Nat) : SoundPc Try.prog 0 code15 (pc15_14926 fu) := SoundPc.none _ _ _
theorem s15_14926 (fu : Nat) : ∀ n, SoundP Try.prog 0 (.loop (loopBody (codeAt code15 14926))) (t15_14926 fu n) := by
  refine loop_sound (gin := [.live [true, false, false, true, true, true, true, false, false, false, false, false, true, true], .fzP 0 [] ft5, .gc, .fzC 0 15 ft2, .gc]) (gout := [.live (true :: false :: true :: true :: true :: false :: false :: false :: false :: false :: false :: false :: true :: true :: false :: false :: false :: false :: false :: false :: false :: false :: false :: false :: false :: false :: false :: false :: false :: false :: false :: false :: false :: false :: false :: false :: false :: false :: false :: false :: false :: false :: false :: false :: false :: false :: false :: false :: false :: false :: false :: false :: false :: false :: false :: false :: false :: false :: true :: true :: false :: false :: false :: false :: false :: false :: false :: false :: false :: false :: false :: false :: false :: false :: false :: true :: true :: []), .gc]) (k := 300) (tb21_sound fu) (p15_14926 fu) (by decide) a15_14926 (fun R e s K => ?_) (fun n R e s K r h => ?_)
  · unfold t15_14926; repeat' split
    all_goals rfl
  · unfold t15_14926 at h; split at h
    case h_2 => cases h
    split at h
    case h_2 => cases h
    rename_i hq
    have hq := FT.sames_eq _ _ hq
    subst hq
    split at h
    case h_2 => cases h
    rename_i hq
    have hq := FT.sames_eq _ _ hq
    subst hq
    exact (e15_14926 fu n R K _ _ _ _ _ _ _ _ _ _ _ _ _ _ _ _ _ _ _ _ _ _ _ _).symm.trans h

noncomputable def F15_58 {R : Type} (fu : Nat) (l : List (List D)) : Nat → Int → Int → (Int → Option R) → Option R
  | 0, _, _, _ => none
  | n + 1, n_, k_, k0 => bif decide (k_ < ofN l.length) then bif decide (k_ ≤ 60) then bif within k_ l.length then F15_14926 fu (cell 15 (elem k_.toNat l)).toRows fu (IntKind.i64.wrap (n_ + IntKind.i64.wrap (IntKind.i64.wrap (IntKind.i64.wrap (IntKind.i64.wrap (IntKind.i64.wrap (IntKind.i64.wrap (ofN (cell 11 (elem k_.toNat l)).toStr.size + ofN (cell 12 (elem k_.toNat l)).toStr.size) + ofN (cell 13 (elem k_.toNat l)).toStr.size) + ofN (cell 14 (elem k_.toNat l)).toStr.size) + ofN (cell 3 (elem k_.toNat l)).toStr.size) + ofN (cell 9 (elem k_.toNat l)).toStr.size) + IntKind.i64.wrap (8 * ofN (cell 15 (elem k_.toNat l)).toRows.length)))) 0 (fun o0 o1 o2 => (F15_58 fu l n o0 (IntKind.i64.wrap (k_ + 1)) k0)) fun o3 => (F15_58 fu l n o3 (IntKind.i64.wrap (k_ + 1)) k0) else none else (k0 n_) else (k0 n_)

noncomputable def t15_58 (fu n : Nat) : ToldP := fun _ e s K => match e, s with
  | [.fz zq0 l false, .undef, .undef, .int .i64 n_, .int .i64 k_], [] => (match FT.sames zq0 ft5 with | true => F15_58 fu l n n_ k_ (fun o => K (.exit 0) (.fz ft5 (l) false :: .undef :: .undef :: .int .i64 o :: .undef :: .undef :: .undef :: .undef :: .undef :: .undef :: .undef :: .undef :: .undef :: .undef :: .undef :: .undef :: .undef :: .undef :: .undef :: .undef :: .undef :: .undef :: .undef :: .undef :: .undef :: .undef :: .undef :: .undef :: .undef :: .undef :: .undef :: .undef :: .undef :: .undef :: .undef :: .undef :: .undef :: .undef :: .undef :: .undef :: .undef :: .undef :: .undef :: .undef :: .undef :: .undef :: .undef :: .undef :: .undef :: .undef :: .undef :: .undef :: .undef :: .undef :: .undef :: .undef :: .undef :: .undef :: .undef :: .undef :: .undef :: .undef :: .undef :: .undef :: .undef :: .undef :: .undef :: .undef :: .undef :: .undef :: .undef :: .undef :: .undef :: .undef :: .undef :: .undef :: .undef :: []) []) | false => none)
  | _, _ => none

noncomputable def pc15_58 (fu : Nat) : Nat → Option ToldP := fun p => match Nat.beq p 14926 with | true => some (ghP 0 [.live [true, false, false, true, true, true, true, false, false, false, false, false, true, true], .fzP 0 [] ft5, .gc, .fzC 0 15 ft2, .gc] (t15_14926 fu fu)) | false => none
theorem e15_58 (fu n : Nat) (R : Type) (K : VExit → UEnv → USt → Option R) (l : List (List D)) (n_ : Int) (k_ : Int) :
    F15_58 fu l (n + 1) n_ k_ (fun o => K (.exit 0) (.fz ft5 (l) false :: .undef :: .undef :: .int .i64 o :: .undef :: .undef :: .undef :: .undef :: .undef :: .undef :: .undef :: .undef :: .undef :: .undef :: .undef :: .undef :: .undef :: .undef :: .undef :: .undef :: .undef :: .undef :: .undef :: .undef :: .undef :: .undef :: .undef :: .undef :: .undef :: .undef :: .undef :: .undef :: .undef :: .undef :: .undef :: .undef :: .undef :: .undef :: .undef :: .undef :: .undef :: .undef :: .undef :: .undef :: .undef :: .undef :: .undef :: .undef :: .undef :: .undef :: .undef :: .undef :: .undef :: .undef :: .undef :: .undef :: .undef :: .undef :: .undef :: .undef :: .undef :: .undef :: .undef :: .undef :: .undef :: .undef :: .undef :: .undef :: .undef :: .undef :: .undef :: .undef :: .undef :: .undef :: .undef :: .undef :: .undef :: []) []) = uexec Try.prog (tb21 fu) 300 (pc15_58 fu) 116 (loopBody (codeAt code15 58)) [.fz ft5 l false, .undef, .undef, .int .i64 n_, .int .i64 k_] [] (loopK 0 [.live [true, false, false, true, true], .fzP 0 [] ft5, .gc] [.live (true :: false :: true :: true :: false :: false :: false :: false :: false :: false :: false :: false :: false :: false :: false :: false :: false :: false :: false :: false :: false :: false :: false :: false :: false :: false :: false :: false :: false :: false :: false :: false :: false :: false :: false :: false :: false :: false :: false :: false :: false :: false :: false :: false :: false :: false :: false :: false :: false :: false :: false :: false :: false :: false :: false :: false :: false :: false :: false :: false :: false :: false :: false :: false :: false :: false :: false :: false :: false :: false :: false :: false :: false :: false :: false :: true :: true :: []), .gc] (t15_58 fu n) K) := by kernel_rfl

theorem p15_58 (fu : Nat) : SoundPc Try.prog 0 code15 (pc15_58 fu) := fun p told h b hb => by
  replace h : pc15_58 fu p = some told := h
  unfold pc15_58 at h
  split at h
  · rename_i hp
    cases h
    have := Nat.eq_of_beq_eq_true hp
    subst this
    rw [a15_14926] at hb
    cases hb
    exact ghP_sound (s15_14926 fu _)
  ·
    cases h

theorem s15_58 (fu : Nat) : ∀ n, SoundP Try.prog 0 (.loop (loopBody (codeAt code15 58))) (t15_58 fu n) := by
  refine loop_sound (gin := [.live [true, false, false, true, true], .fzP 0 [] ft5, .gc]) (gout := [.live (true :: false :: true :: true :: false :: false :: false :: false :: false :: false :: false :: false :: false :: false :: false :: false :: false :: false :: false :: false :: false :: false :: false :: false :: false :: false :: false :: false :: false :: false :: false :: false :: false :: false :: false :: false :: false :: false :: false :: false :: false :: false :: false :: false :: false :: false :: false :: false :: false :: false :: false :: false :: false :: false :: false :: false :: false :: false :: false :: false :: false :: false :: false :: false :: false :: false :: false :: false :: false :: false :: false :: false :: false :: false :: false :: true :: true :: []), .gc]) (k := 300) (tb21_sound fu) (p15_58 fu) (by decide) a15_58 (fun R e s K => ?_) (fun n R e s K r h => ?_)
  · unfold t15_58; repeat' split
    all_goals rfl
  · unfold t15_58 at h; split at h
    case h_2 => cases h
    split at h
    case h_2 => cases h
    rename_i hq
    have hq := FT.sames_eq _ _ hq
    subst hq
    exact (e15_58 fu n R K _ _ _).symm.trans h


noncomputable def F15 {R : Type} (fu : Nat) (l : List (List D)) (k0 : Bool → Option R) : Option R :=
  F15_58 fu l fu 0 0 fun o0 => bif decide (ofN l.length ≤ 60) then (k0 (decide (o0 ≤ 6000))) else (k0 false)

noncomputable def pc15 (fu : Nat) : Nat → Option ToldP := fun p => match Nat.beq p 58 with | true => some (ghP 0 [.live [true, false, false, true, true], .fzP 0 [] ft5, .gc] (t15_58 fu fu)) | false => none
noncomputable def t15 (fu : Nat) : ToldF := fun _ args s K => match args, s with
  | [.fz zq0 l false], [] => (match FT.sames zq0 ft5 with | true => F15 fu l (fun o => K (.bool o) []) | false => none)
  | _, _ => none

theorem e15 (R : Type) (K : UV → USt → Option R) (fu : Nat) (l : List (List D)) :
    F15 fu l (fun o => K (.bool o) []) = ufun Try.prog ⟨(tb21 fu), pc15 fu⟩ 300 15 [.fz ft5 l false] [] (funK 0 [.gc] K) := by kernel_rfl

theorem s15 (fu : Nat) : Tells Try.prog 15 (t15 fu) := by
  refine ufun_sound (T := ⟨(tb21 fu), pc15 fu⟩) (m := 0) (gout := [.gc]) (k := 300) (tb21_sound fu) (fun fn body hf hb => ?_) (fun R args s K r h => ?_) (fun R args s K r h => ?_)
  · have hc : body = code15 := by
      have h1 : Try.prog.funcs[15]? = some Try.f15 := rfl
      rw [h1] at hf; cases hf
      have h2 : Try.f15.body = some code15 := rfl
      rw [h2] at hb; cases hb; rfl
    subst hc
    exact fun p told h b hb => by
      replace h : pc15 fu p = some told := h
      unfold pc15 at h
      split at h
      · rename_i hp
        cases h
        have := Nat.eq_of_beq_eq_true hp
        subst this
        rw [a15_58] at hb
        cases hb
        exact ghP_sound (s15_58 fu _)
      ·
        cases h

  · unfold t15 at h; split at h
    · rfl
    · cases h
  · unfold t15 at h; split at h
    case h_2 => cases h
    split at h
    case h_2 => cases h
    rename_i hq
    have hq := FT.sames_eq _ _ hq
    subst hq
    exact (e15 R K fu _).symm.trans h

noncomputable def tb15 (fu : Nat) : FuncId → Option (Bool × ToldF) := fun f => match Nat.beq f 15 with
  | true => some (false, ghF [.fzP 0 [] ft5] (t15 fu))
  | false => (tb21 fu) f
theorem tb15_sound (fu : Nat) : SoundF' Try.prog (tb15 fu) := by
  intro f own told h
  unfold tb15 at h
  split at h
  · rename_i hb
    cases h
    have := Nat.eq_of_beq_eq_true hb
    subst this
    exact ghF_sound (s15 fu)
  · exact (tb21_sound fu) f own told h

end Go.Proofs.Ytdoikghgblohjaa.V

/- Printed by ugen: daisychain/daisychainlaw18.few -/
namespace Go.Proofs.Ytdoikghgblohjaa.V
set_option maxRecDepth 100000

abbrev ft9 : List FT := [FT.int IntKind.i64, FT.int IntKind.i64, FT.int IntKind.i64, FT.int IntKind.i64, FT.int IntKind.i64, FT.str, FT.int IntKind.i64, FT.int IntKind.i64, FT.int IntKind.i64, FT.int IntKind.i64, FT.int IntKind.i64, FT.str, FT.bool, FT.str, FT.str, FT.str, FT.str, FT.row 16 [FT.str], FT.int IntKind.i64, FT.int IntKind.i64, FT.int IntKind.i64, FT.row 8 [FT.int IntKind.i64], FT.row 64 [FT.int IntKind.i64, FT.int IntKind.i64, FT.str, FT.str, FT.str]]

noncomputable def code28 : Code := match Try.f28.body with | some c => c | none => .skip
theorem a28_58 : codeAt code28 58 = some (.loop (loopBody (codeAt code28 58))) := by kernel_rfl
noncomputable def F28_58 {R : Type} (fu : Nat) (l : List (List D)) : Nat → Int → (List (List D)) → ((List (List D)) → Option R) → ((List (List D)) → Option R) → Option R
  | 0, _, _, _, _ => none
  | n + 1, k_, all, k0, k1 => bif decide (k_ < ofN l.length) then bif decide (k_ ≤ 60) then bif within k_ l.length then bif fits (all.length + 1) 208 then bif within k_ l.length then bif decide (30 < ofN (cell 21 (elem k_.toNat l)).toRows.length) then (k0 (all ++ [[D.int (cell 2 (elem k_.toNat l)).toInt, D.int (cell 3 (elem k_.toNat l)).toInt, D.int (cell 4 (elem k_.toNat l)).toInt, D.str (cell 5 (elem k_.toNat l)).toStr, D.int (cell 6 (elem k_.toNat l)).toInt, D.int (cell 7 (elem k_.toNat l)).toInt, D.int (cell 8 (elem k_.toNat l)).toInt, D.int (cell 9 (elem k_.toNat l)).toInt, D.int (cell 10 (elem k_.toNat l)).toInt, D.str (cell 11 (elem k_.toNat l)).toStr, D.bool (cell 12 (elem k_.toNat l)).toBool, D.str (cell 13 (elem k_.toNat l)).toStr, D.str (cell 14 (elem k_.toNat l)).toStr, D.str (cell 15 (elem k_.toNat l)).toStr, D.str (cell 16 (elem k_.toNat l)).toStr, D.row (cell 17 (elem k_.toNat l)).toRows, D.int (cell 18 (elem k_.toNat l)).toInt, D.int (cell 19 (elem k_.toNat l)).toInt]])) else bif within k_ l.length then bif decide (30 < ofN (cell 22 (elem k_.toNat l)).toRows.length) then (k0 (all ++ [[D.int (cell 2 (elem k_.toNat l)).toInt, D.int (cell 3 (elem k_.toNat l)).toInt, D.int (cell 4 (elem k_.toNat l)).toInt, D.str (cell 5 (elem k_.toNat l)).toStr, D.int (cell 6 (elem k_.toNat l)).toInt, D.int (cell 7 (elem k_.toNat l)).toInt, D.int (cell 8 (elem k_.toNat l)).toInt, D.int (cell 9 (elem k_.toNat l)).toInt, D.int (cell 10 (elem k_.toNat l)).toInt, D.str (cell 11 (elem k_.toNat l)).toStr, D.bool (cell 12 (elem k_.toNat l)).toBool, D.str (cell 13 (elem k_.toNat l)).toStr, D.str (cell 14 (elem k_.toNat l)).toStr, D.str (cell 15 (elem k_.toNat l)).toStr, D.str (cell 16 (elem k_.toNat l)).toStr, D.row (cell 17 (elem k_.toNat l)).toRows, D.int (cell 18 (elem k_.toNat l)).toInt, D.int (cell 19 (elem k_.toNat l)).toInt]])) else (F28_58 fu l n (IntKind.i64.wrap (k_ + 1)) (all ++ [[D.int (cell 2 (elem k_.toNat l)).toInt, D.int (cell 3 (elem k_.toNat l)).toInt, D.int (cell 4 (elem k_.toNat l)).toInt, D.str (cell 5 (elem k_.toNat l)).toStr, D.int (cell 6 (elem k_.toNat l)).toInt, D.int (cell 7 (elem k_.toNat l)).toInt, D.int (cell 8 (elem k_.toNat l)).toInt, D.int (cell 9 (elem k_.toNat l)).toInt, D.int (cell 10 (elem k_.toNat l)).toInt, D.str (cell 11 (elem k_.toNat l)).toStr, D.bool (cell 12 (elem k_.toNat l)).toBool, D.str (cell 13 (elem k_.toNat l)).toStr, D.str (cell 14 (elem k_.toNat l)).toStr, D.str (cell 15 (elem k_.toNat l)).toStr, D.str (cell 16 (elem k_.toNat l)).toStr, D.row (cell 17 (elem k_.toNat l)).toRows, D.int (cell 18 (elem k_.toNat l)).toInt, D.int (cell 19 (elem k_.toNat l)).toInt]]) k0 k1) else none else none else none else none else (k1 all) else (k1 all)

noncomputable def t28_58 (fu n : Nat) : ToldP := fun _ e s K => match e, s with
  | [.fz zq0 l false, .undef, .undef, .own 0, .int .i64 k_], [.row zq1 all] => (match FT.sames zq0 ft9 with | true => (match FT.sames zq1 ft5 with | true => F28_58 fu l n k_ all (fun o => K .ret (.fz ft9 (l) false :: .undef :: .bool (false) :: .own 0 :: .undef :: .undef :: .undef :: .undef :: .undef :: .undef :: .undef :: .undef :: .undef :: .undef :: .undef :: .undef :: .undef :: .undef :: .undef :: .undef :: .undef :: .undef :: .undef :: .undef :: .undef :: .undef :: .undef :: .undef :: .undef :: .undef :: .undef :: .undef :: .undef :: .undef :: .undef :: .undef :: .undef :: .undef :: .undef :: .undef :: .undef :: .undef :: .undef :: .undef :: .undef :: .undef :: .undef :: []) [.row ft5 o]) (fun o => K (.exit 0) (.fz ft9 (l) false :: .undef :: .undef :: .own 0 :: .undef :: .undef :: .undef :: .undef :: .undef :: .undef :: .undef :: .undef :: .undef :: .undef :: .undef :: .undef :: .undef :: .undef :: .undef :: .undef :: .undef :: .undef :: .undef :: .undef :: .undef :: .undef :: .undef :: .undef :: .undef :: .undef :: .undef :: .undef :: .undef :: .undef :: .undef :: .undef :: .undef :: .undef :: .undef :: .undef :: .undef :: .undef :: .undef :: .undef :: .undef :: .undef :: .undef :: []) [.row ft5 o]) | false => none) | false => none)
  | _, _ => none

noncomputable def pc28_58 (fu : Nat) : Nat → Option ToldP := fun _ => none
theorem e28_58 (fu n : Nat) (R : Type) (K : VExit → UEnv → USt → Option R) (l : List (List D)) (k_ : Int) (all : List (List D)) :
    F28_58 fu l (n + 1) k_ all (fun o => K .ret (.fz ft9 (l) false :: .undef :: .bool (false) :: .own 0 :: .undef :: .undef :: .undef :: .undef :: .undef :: .undef :: .undef :: .undef :: .undef :: .undef :: .undef :: .undef :: .undef :: .undef :: .undef :: .undef :: .undef :: .undef :: .undef :: .undef :: .undef :: .undef :: .undef :: .undef :: .undef :: .undef :: .undef :: .undef :: .undef :: .undef :: .undef :: .undef :: .undef :: .undef :: .undef :: .undef :: .undef :: .undef :: .undef :: .undef :: .undef :: .undef :: .undef :: []) [.row ft5 o]) (fun o => K (.exit 0) (.fz ft9 (l) false :: .undef :: .undef :: .own 0 :: .undef :: .undef :: .undef :: .undef :: .undef :: .undef :: .undef :: .undef :: .undef :: .undef :: .undef :: .undef :: .undef :: .undef :: .undef :: .undef :: .undef :: .undef :: .undef :: .undef :: .undef :: .undef :: .undef :: .undef :: .undef :: .undef :: .undef :: .undef :: .undef :: .undef :: .undef :: .undef :: .undef :: .undef :: .undef :: .undef :: .undef :: .undef :: .undef :: .undef :: .undef :: .undef :: .undef :: []) [.row ft5 o]) = uexec Try.prog (tb15 fu) 300 (pc28_58 fu) 116 (loopBody (codeAt code28 58)) [.fz ft9 l false, .undef, .undef, .own 0, .int .i64 k_] [.row ft5 all] (loopK 0 [.live [true, false, false, true, true], .fzP 0 [] ft9, .ownP 3 [] ft5, .gc] [.live (true :: false :: true :: true :: false :: false :: false :: false :: false :: false :: false :: false :: false :: false :: false :: false :: false :: false :: false :: false :: false :: false :: false :: false :: false :: false :: false :: false :: false :: false :: false :: false :: false :: false :: false :: false :: false :: false :: false :: false :: false :: false :: false :: false :: false :: true :: true :: []), .gc] (t28_58 fu n) K) := by kernel_rfl

theorem p28_58 (fu : Nat) : SoundPc Try.prog 0 code28 (pc28_58 fu) := SoundPc.none _ _ _
theorem s28_58 (fu : Nat) : ∀ n, SoundP Try.prog 0 (.loop (loopBody (codeAt code28 58))) (t28_58 fu n) := by
  refine loop_sound (gin := [.live [true, false, false, true, true], .fzP 0 [] ft9, .ownP 3 [] ft5, .gc]) (gout := [.live (true :: false :: true :: true :: false :: false :: false :: false :: false :: false :: false :: false :: false :: false :: false :: false :: false :: false :: false :: false :: false :: false :: false :: false :: false :: false :: false :: false :: false :: false :: false :: false :: false :: false :: false :: false :: false :: false :: false :: false :: false :: false :: false :: false :: false :: true :: true :: []), .gc]) (k := 300) (tb15_sound fu) (p28_58 fu) (by decide) a28_58 (fun R e s K => ?_) (fun n R e s K r h => ?_)
  · unfold t28_58; repeat' split
    all_goals rfl
  · unfold t28_58 at h; split at h
    case h_2 => cases h
    split at h
    case h_2 => cases h
    rename_i hq
    have hq := FT.sames_eq _ _ hq
    subst hq
    split at h
    case h_2 => cases h
    rename_i hq
    have hq := FT.sames_eq _ _ hq
    subst hq
    exact (e28_58 fu n R K _ _ _).symm.trans h


noncomputable def F28 {R : Type} (fu : Nat) (l : List (List D)) (k0 : Bool → Option R) : Option R :=
  F28_58 fu l fu 0 [] (fun o0 => (k0 false)) fun o1 => bif decide (ofN l.length ≤ 60) then F15 fu o1 fun o2 => (k0 o2) else (k0 false)

noncomputable def pc28 (fu : Nat) : Nat → Option ToldP := fun p => match Nat.beq p 58 with | true => some (ghP 0 [.live [true, false, false, true, true], .fzP 0 [] ft9, .ownP 3 [] ft5, .gc] (t28_58 fu fu)) | false => none
noncomputable def t28 (fu : Nat) : ToldF := fun _ args s K => match args, s with
  | [.fz zq0 l false], [] => (match FT.sames zq0 ft9 with | true => F28 fu l (fun o => K (.bool o) []) | false => none)
  | _, _ => none

theorem e28 (R : Type) (K : UV → USt → Option R) (fu : Nat) (l : List (List D)) :
    F28 fu l (fun o => K (.bool o) []) = ufun Try.prog ⟨(tb15 fu), pc28 fu⟩ 300 28 [.fz ft9 l false] [] (funK 0 [.gc] K) := by kernel_rfl

theorem s28 (fu : Nat) : Tells Try.prog 28 (t28 fu) := by
  refine ufun_sound (T := ⟨(tb15 fu), pc28 fu⟩) (m := 0) (gout := [.gc]) (k := 300) (tb15_sound fu) (fun fn body hf hb => ?_) (fun R args s K r h => ?_) (fun R args s K r h => ?_)
  · have hc : body = code28 := by
      have h1 : Try.prog.funcs[28]? = some Try.f28 := rfl
      rw [h1] at hf; cases hf
      have h2 : Try.f28.body = some code28 := rfl
      rw [h2] at hb; cases hb; rfl
    subst hc
    exact fun p told h b hb => by
      replace h : pc28 fu p = some told := h
      unfold pc28 at h
      split at h
      · rename_i hp
        cases h
        have := Nat.eq_of_beq_eq_true hp
        subst this
        rw [a28_58] at hb
        cases hb
        exact ghP_sound (s28_58 fu _)
      ·
        cases h

  · unfold t28 at h; split at h
    · rfl
    · cases h
  · unfold t28 at h; split at h
    case h_2 => cases h
    split at h
    case h_2 => cases h
    rename_i hq
    have hq := FT.sames_eq _ _ hq
    subst hq
    exact (e28 R K fu _).symm.trans h

noncomputable def tb28 (fu : Nat) : FuncId → Option (Bool × ToldF) := fun f => match Nat.beq f 28 with
  | true => some (false, ghF [.fzP 0 [] ft9] (t28 fu))
  | false => (tb15 fu) f
theorem tb28_sound (fu : Nat) : SoundF' Try.prog (tb28 fu) := by
  intro f own told h
  unfold tb28 at h
  split at h
  · rename_i hb
    cases h
    have := Nat.eq_of_beq_eq_true hb
    subst this
    exact ghF_sound (s28 fu)
  · exact (tb15_sound fu) f own told h

end Go.Proofs.Ytdoikghgblohjaa.V

/- Printed by ugen: daisychain/daisychainlaw18.awake -/
namespace Go.Proofs.Ytdoikghgblohjaa.V
set_option maxRecDepth 100000


noncomputable def code16 : Code := match Try.f16.body with | some c => c | none => .skip

noncomputable def F16 {R : Type} (fu : Nat) (k0 : Bool → Option R) : Option R :=
  F17 fu 4 ((k0 false)) (F18 fu 7 [D.int 0, D.int 0, D.int 4, D.str { data := #[113] }, D.int 0, D.int 0, D.int 0, D.int 0, D.int 0, D.str { data := #[] }, D.bool false, D.str { data := #[] }, D.str { data := #[] }, D.str { data := #[] }, D.str { data := #[] }, D.row [], D.int 0, D.int 0] 4 [] false (F18 fu 8 [D.int 0, D.int 0, D.int 0, D.str { data := #[] }, D.int 0, D.int 0, D.int 0, D.int 0, D.int 0, D.str { data := #[] }, D.bool false, D.str { data := #[] }, D.str { data := #[] }, D.str { data := #[] }, D.str { data := #[] }, D.row [], D.int 0, D.int 0] 4 [] false (F19 fu 9 2 [D.int 0, D.row [], D.row []] 4 [] false fun o0 o1 o2 => F19 fu 9 1 [D.int 6, D.row [], D.row []] 4 o2 o1 fun o3 o4 o5 => F20 fu 4 o5 o4 fun o6 => (k0 false)) fun o7 o8 => F19 fu 9 2 [D.int 0, D.row [], D.row []] 4 o8 true fun o9 o10 o11 => F19 fu 9 1 [D.int 6, D.row [], D.row []] 4 o11 o10 fun o12 o13 o14 => F20 fu 4 o14 o13 fun o15 => (k0 false)) fun o16 o17 => F18 fu 8 [D.int 0, D.int 0, D.int 0, D.str { data := #[] }, D.int 0, D.int 0, D.int 0, D.int 0, D.int 0, D.str { data := #[] }, D.bool false, D.str { data := #[] }, D.str { data := #[] }, D.str { data := #[] }, D.str { data := #[] }, D.row [], D.int 0, D.int 0] 4 o17 true (F19 fu 9 2 [D.int 0, D.row [], D.row []] 4 o17 true fun o18 o19 o20 => F19 fu 9 1 [D.int 6, D.row [], D.row []] 4 o20 o19 fun o21 o22 o23 => F20 fu 4 o23 o22 fun o24 => bif decide ((cell 0 o16).toInt = 4) then bif decide ((cell 1 o16).toInt = 1) then bif strEq (cell 3 o16).toStr { data := #[113] } then bif !o18 then bif o21 then bif decide (ofN o24.length = 1) then bif within 0 o24.length then bif (cell 20 (elem 0 o24)).toBool then bif within 0 o24.length then bif decide ((cell 21 (elem 0 o24)).toInt = 6) then bif within 0 o24.length then bif decide ((cell 18 (elem 0 o24)).toInt = 7) then bif within 0 o24.length then (k0 (decide ((cell 19 (elem 0 o24)).toInt = 9))) else none else (k0 false) else none else (k0 false) else none else (k0 false) else none else (k0 false) else (k0 false) else (k0 false) else (k0 false) else (k0 false) else (k0 false)) fun o25 o26 => F19 fu 9 2 [D.int 0, D.row [], D.row []] 4 o26 true fun o27 o28 o29 => F19 fu 9 1 [D.int 6, D.row [], D.row []] 4 o29 o28 fun o30 o31 o32 => F20 fu 4 o32 o31 fun o33 => (k0 false))

noncomputable def pc16 (fu : Nat) : Nat → Option ToldP := fun _ => none
noncomputable def t16 (fu : Nat) : ToldF := fun _ args s K => match args, s with
  | [], [] => F16 fu  (fun o => K (.bool o) [])
  | _, _ => none

theorem e16 (R : Type) (K : UV → USt → Option R) (fu : Nat) :
    F16 fu  (fun o => K (.bool o) []) = ufun Try.prog ⟨(tb28 fu), pc16 fu⟩ 300 16 [] [] (funK 0 [.gc] K) := by kernel_rfl

theorem s16 (fu : Nat) : Tells Try.prog 16 (t16 fu) := by
  refine ufun_sound (T := ⟨(tb28 fu), pc16 fu⟩) (m := 0) (gout := [.gc]) (k := 300) (tb28_sound fu) (fun fn body hf hb => ?_) (fun R args s K r h => ?_) (fun R args s K r h => ?_)
  · have hc : body = code16 := by
      have h1 : Try.prog.funcs[16]? = some Try.f16 := rfl
      rw [h1] at hf; cases hf
      have h2 : Try.f16.body = some code16 := rfl
      rw [h2] at hb; cases hb; rfl
    subst hc
    exact SoundPc.none _ _ _
  · unfold t16 at h; split at h
    · rfl
    · cases h
  · unfold t16 at h; split at h
    case h_2 => cases h
    exact (e16 R K fu).symm.trans h

noncomputable def tb16 (fu : Nat) : FuncId → Option (Bool × ToldF) := fun f => match Nat.beq f 16 with
  | true => some (false, ghF [] (t16 fu))
  | false => (tb28 fu) f
theorem tb16_sound (fu : Nat) : SoundF' Try.prog (tb16 fu) := by
  intro f own told h
  unfold tb16 at h
  split at h
  · rename_i hb
    cases h
    have := Nat.eq_of_beq_eq_true hb
    subst this
    exact ghF_sound (s16 fu)
  · exact (tb28_sound fu) f own told h

end Go.Proofs.Ytdoikghgblohjaa.V

/- Printed by ugen: daisychain/daisychainlaw18.ClientCounts -/
namespace Go.Proofs.Ytdoikghgblohjaa.V
set_option maxRecDepth 100000

abbrev ft10 : List FT := [FT.bool]

noncomputable def code4 : Code := match Try.f4.body with | some c => c | none => .skip
theorem a4_250 : codeAt code4 250 = some (.loop (loopBody (codeAt code4 250))) := by kernel_rfl
noncomputable def F4_250 {R : Type} (fu : Nat) (id : Int) (x : List (List D)) (x1 : Int) (c : Int) : Nat → Int → Int → Bool → (List (List D)) → (Int → (List (List D)) → Option R) → (Int → Bool → (List (List D)) → Option R) → Option R
  | 0, _, _, _, _, _, _ => none
  | n + 1, n_, x2, c1, y, k0, k1 => bif decide (x2 < x1) then bif within x2 x.length then F18 fu n_ [D.int 0, D.int 0, D.int 3, D.str { data := #[] }, D.int 0, D.int 0, D.int 0, D.int 0, D.int 0, D.str { data := #[] }, D.bool false, D.str { data := #[] }, D.str { data := #[] }, D.str { data := #[] }, D.str { data := #[] }, D.row [], D.int 0, D.int 0] c y c1 (bif (cell 0 (elem x2.toNat x)).toBool then F24 fu c y c1 ((F4_250 fu id x x1 c n n_ (IntKind.i64.wrap (x2 + 1)) false y k0 k1)) else (F4_250 fu id x x1 c n n_ (IntKind.i64.wrap (x2 + 1)) c1 y k0 k1)) fun o0 o1 => bif !decide ((cell 0 o0).toInt = id) then (k0 (IntKind.i64.wrap (n_ + 1)) o1) else bif !decide ((cell 1 o0).toInt = IntKind.i64.wrap (n_ + 1)) then (k0 (IntKind.i64.wrap (n_ + 1)) o1) else bif (cell 0 (elem x2.toNat x)).toBool then F24 fu c o1 true ((F4_250 fu id x x1 c n (IntKind.i64.wrap (n_ + 1)) (IntKind.i64.wrap (x2 + 1)) false o1 k0 k1)) else (F4_250 fu id x x1 c n (IntKind.i64.wrap (n_ + 1)) (IntKind.i64.wrap (x2 + 1)) true o1 k0 k1) else none else (k1 n_ c1 y)

noncomputable def t4_250 (fu n : Nat) : ToldP := fun _ e s K => match e, s with
  | (.int .i64 id :: .undef :: .undef :: .undef :: .undef :: .ptr 0 0 :: .int .i64 n_ :: .undef :: .undef :: .undef :: .undef :: .undef :: .undef :: .undef :: .undef :: .undef :: .undef :: .undef :: .undef :: .undef :: .undef :: .undef :: .undef :: .undef :: .undef :: .undef :: .undef :: .undef :: .undef :: .undef :: .undef :: .undef :: .undef :: .undef :: .undef :: .undef :: .undef :: .fz zq0 x false :: .int .i64 x1 :: .int .i64 x2 :: []), [.obj [.int .i64 c, .own 1, .bool c1], .row zq1 y] => (match FT.sames zq0 ft10 with | true => (match FT.sames zq1 ft7 with | true => F4_250 fu id x x1 c n n_ x2 c1 y (fun o o1 => K .ret (.undef :: .undef :: .undef :: .undef :: .bool (false) :: .ptr 0 0 :: .int .i64 o :: .undef :: .undef :: .undef :: .undef :: .undef :: .undef :: .undef :: .undef :: .undef :: .undef :: .undef :: .undef :: .undef :: .undef :: .undef :: .undef :: .undef :: .undef :: .undef :: .undef :: .undef :: .undef :: .undef :: .undef :: .undef :: .undef :: .undef :: .undef :: .undef :: .undef :: .undef :: .undef :: .undef :: .undef :: .undef :: .undef :: .undef :: .undef :: .undef :: .undef :: .undef :: .undef :: .undef :: .undef :: .undef :: .undef :: .undef :: .undef :: .undef :: .undef :: .undef :: .undef :: .undef :: .undef :: .undef :: .undef :: .undef :: .undef :: .undef :: .undef :: .undef :: .undef :: .undef :: .undef :: .undef :: .undef :: .undef :: .undef :: .undef :: .undef :: .undef :: .undef :: .undef :: .undef :: .undef :: .undef :: .undef :: .undef :: .undef :: .undef :: .undef :: .undef :: .undef :: .undef :: .undef :: .undef :: .undef :: .undef :: .undef :: .undef :: .undef :: .undef :: .undef :: .undef :: []) [.obj [.int .i64 (c), .own 1, .bool (true)], .row ft7 o1]) (fun o o1 o2 => K (.exit 0) (.undef :: .undef :: .undef :: .undef :: .undef :: .ptr 0 0 :: .int .i64 o :: .undef :: .undef :: .undef :: .undef :: .undef :: .undef :: .undef :: .undef :: .undef :: .undef :: .undef :: .undef :: .undef :: .undef :: .undef :: .undef :: .undef :: .undef :: .undef :: .undef :: .undef :: .undef :: .undef :: .undef :: .undef :: .undef :: .undef :: .undef :: .undef :: .undef :: .undef :: .undef :: .undef :: .undef :: .undef :: .undef :: .undef :: .undef :: .undef :: .undef :: .undef :: .undef :: .undef :: .undef :: .undef :: .undef :: .undef :: .undef :: .undef :: .undef :: .undef :: .undef :: .undef :: .undef :: .undef :: .undef :: .undef :: .undef :: .undef :: .undef :: .undef :: .undef :: .undef :: .undef :: .undef :: .undef :: .undef :: .undef :: .undef :: .undef :: .undef :: .undef :: .undef :: .undef :: .undef :: .undef :: .undef :: .undef :: .undef :: .undef :: .undef :: .undef :: .undef :: .undef :: .undef :: .undef :: .undef :: .undef :: .undef :: .undef :: .undef :: .undef :: .undef :: .undef :: []) [.obj [.int .i64 (c), .own 1, .bool o1], .row ft7 o2]) | false => none) | false => none)
  | _, _ => none

noncomputable def pc4_250 (fu : Nat) : Nat → Option ToldP := fun _ => none
theorem e4_250 (fu n : Nat) (R : Type) (K : VExit → UEnv → USt → Option R) (id : Int) (n_ : Int) (x : List (List D)) (x1 : Int) (x2 : Int) (c : Int) (c1 : Bool) (y : List (List D)) :
    F4_250 fu id x x1 c (n + 1) n_ x2 c1 y (fun o o1 => K .ret (.undef :: .undef :: .undef :: .undef :: .bool (false) :: .ptr 0 0 :: .int .i64 o :: .undef :: .undef :: .undef :: .undef :: .undef :: .undef :: .undef :: .undef :: .undef :: .undef :: .undef :: .undef :: .undef :: .undef :: .undef :: .undef :: .undef :: .undef :: .undef :: .undef :: .undef :: .undef :: .undef :: .undef :: .undef :: .undef :: .undef :: .undef :: .undef :: .undef :: .undef :: .undef :: .undef :: .undef :: .undef :: .undef :: .undef :: .undef :: .undef :: .undef :: .undef :: .undef :: .undef :: .undef :: .undef :: .undef :: .undef :: .undef :: .undef :: .undef :: .undef :: .undef :: .undef :: .undef :: .undef :: .undef :: .undef :: .undef :: .undef :: .undef :: .undef :: .undef :: .undef :: .undef :: .undef :: .undef :: .undef :: .undef :: .undef :: .undef :: .undef :: .undef :: .undef :: .undef :: .undef :: .undef :: .undef :: .undef :: .undef :: .undef :: .undef :: .undef :: .undef :: .undef :: .undef :: .undef :: .undef :: .undef :: .undef :: .undef :: .undef :: .undef :: .undef :: .undef :: []) [.obj [.int .i64 (c), .own 1, .bool (true)], .row ft7 o1]) (fun o o1 o2 => K (.exit 0) (.undef :: .undef :: .undef :: .undef :: .undef :: .ptr 0 0 :: .int .i64 o :: .undef :: .undef :: .undef :: .undef :: .undef :: .undef :: .undef :: .undef :: .undef :: .undef :: .undef :: .undef :: .undef :: .undef :: .undef :: .undef :: .undef :: .undef :: .undef :: .undef :: .undef :: .undef :: .undef :: .undef :: .undef :: .undef :: .undef :: .undef :: .undef :: .undef :: .undef :: .undef :: .undef :: .undef :: .undef :: .undef :: .undef :: .undef :: .undef :: .undef :: .undef :: .undef :: .undef :: .undef :: .undef :: .undef :: .undef :: .undef :: .undef :: .undef :: .undef :: .undef :: .undef :: .undef :: .undef :: .undef :: .undef :: .undef :: .undef :: .undef :: .undef :: .undef :: .undef :: .undef :: .undef :: .undef :: .undef :: .undef :: .undef :: .undef :: .undef :: .undef :: .undef :: .undef :: .undef :: .undef :: .undef :: .undef :: .undef :: .undef :: .undef :: .undef :: .undef :: .undef :: .undef :: .undef :: .undef :: .undef :: .undef :: .undef :: .undef :: .undef :: .undef :: .undef :: []) [.obj [.int .i64 (c), .own 1, .bool o1], .row ft7 o2]) = uexec Try.prog (tb16 fu) 300 (pc4_250 fu) 500 (loopBody (codeAt code4 250)) (.int .i64 id :: .undef :: .undef :: .undef :: .undef :: .ptr 0 0 :: .int .i64 n_ :: .undef :: .undef :: .undef :: .undef :: .undef :: .undef :: .undef :: .undef :: .undef :: .undef :: .undef :: .undef :: .undef :: .undef :: .undef :: .undef :: .undef :: .undef :: .undef :: .undef :: .undef :: .undef :: .undef :: .undef :: .undef :: .undef :: .undef :: .undef :: .undef :: .undef :: .fz ft10 x false :: .int .i64 x1 :: .int .i64 x2 :: []) [.obj [.int .i64 c, .own 1, .bool c1], .row ft7 y] (loopK 0 [.live (true :: false :: false :: false :: false :: true :: true :: false :: false :: false :: false :: false :: false :: false :: false :: false :: false :: false :: false :: false :: false :: false :: false :: false :: false :: false :: false :: false :: false :: false :: false :: false :: false :: false :: false :: false :: false :: true :: true :: true :: []), .fzP 37 [] ft10, .gc, .ownC 0 1 ft7, .gc] [.live (false :: false :: false :: false :: true :: true :: true :: false :: false :: false :: false :: false :: false :: false :: false :: false :: false :: false :: false :: false :: false :: false :: false :: false :: false :: false :: false :: false :: false :: false :: false :: false :: false :: false :: false :: false :: false :: false :: false :: false :: false :: false :: false :: false :: false :: false :: false :: false :: false :: false :: false :: false :: false :: false :: false :: false :: false :: false :: false :: false :: false :: false :: false :: false :: false :: false :: false :: false :: false :: false :: false :: false :: false :: false :: false :: false :: false :: false :: false :: false :: false :: false :: false :: false :: true :: true :: true :: true :: true :: true :: false :: false :: true :: true :: true :: true :: false :: false :: true :: true :: true :: []), .gc] (t4_250 fu n) K) := by kernel_rfl

theorem p4_250 (fu : Nat) : SoundPc Try.prog 0 code4 (pc4_250 fu) := SoundPc.none _ _ _
theorem s4_250 (fu : Nat) : ∀ n, SoundP Try.prog 0 (.loop (loopBody (codeAt code4 250))) (t4_250 fu n) := by
  refine loop_sound (gin := [.live (true :: false :: false :: false :: false :: true :: true :: false :: false :: false :: false :: false :: false :: false :: false :: false :: false :: false :: false :: false :: false :: false :: false :: false :: false :: false :: false :: false :: false :: false :: false :: false :: false :: false :: false :: false :: false :: true :: true :: true :: []), .fzP 37 [] ft10, .gc, .ownC 0 1 ft7, .gc]) (gout := [.live (false :: false :: false :: false :: true :: true :: true :: false :: false :: false :: false :: false :: false :: false :: false :: false :: false :: false :: false :: false :: false :: false :: false :: false :: false :: false :: false :: false :: false :: false :: false :: false :: false :: false :: false :: false :: false :: false :: false :: false :: false :: false :: false :: false :: false :: false :: false :: false :: false :: false :: false :: false :: false :: false :: false :: false :: false :: false :: false :: false :: false :: false :: false :: false :: false :: false :: false :: false :: false :: false :: false :: false :: false :: false :: false :: false :: false :: false :: false :: false :: false :: false :: false :: false :: true :: true :: true :: true :: true :: true :: false :: false :: true :: true :: true :: true :: false :: false :: true :: true :: true :: []), .gc]) (k := 300) (tb16_sound fu) (p4_250 fu) (by decide) a4_250 (fun R e s K => ?_) (fun n R e s K r h => ?_)
  · unfold t4_250; repeat' split
    all_goals rfl
  · unfold t4_250 at h; split at h
    case h_2 => cases h
    split at h
    case h_2 => cases h
    rename_i hq
    have hq := FT.sames_eq _ _ hq
    subst hq
    split at h
    case h_2 => cases h
    rename_i hq
    have hq := FT.sames_eq _ _ hq
    subst hq
    exact (e4_250 fu n R K _ _ _ _ _ _ _ _).symm.trans h

theorem a4_2042 : codeAt code4 2042 = some (.loop (loopBody (codeAt code4 2042))) := by kernel_rfl
noncomputable def F4_2042 {R : Type} (fu : Nat) (x : Int) (x2 : List (List D)) : Nat → Int → (Option R) → (Option R) → Option R
  | 0, _, _, _ => none
  | n + 1, x1, k0, k1 => bif decide (x1 < x) then bif within x1 x2.length then bif (cell 20 (elem x1.toNat x2)).toBool then (k0) else bif !decide ((cell 1 (elem x1.toNat x2)).toInt = IntKind.i64.wrap (x1 + 1)) then (k0) else bif !decide ((cell 18 (elem x1.toNat x2)).toInt = x1) then (k0) else bif !decide ((cell 19 (elem x1.toNat x2)).toInt = 0) then (k0) else (F4_2042 fu x x2 n (IntKind.i64.wrap (x1 + 1)) k0 k1) else none else (k1)

noncomputable def t4_2042 (fu n : Nat) : ToldP := fun _ e s K => match e, s with
  | (.undef :: .undef :: .undef :: .undef :: .undef :: .undef :: .undef :: .undef :: .undef :: .undef :: .undef :: .undef :: .undef :: .undef :: .undef :: .undef :: .undef :: .undef :: .undef :: .undef :: .undef :: .undef :: .undef :: .undef :: .undef :: .undef :: .undef :: .undef :: .undef :: .undef :: .undef :: .undef :: .undef :: .undef :: .undef :: .undef :: .undef :: .undef :: .undef :: .undef :: .undef :: .undef :: .undef :: .undef :: .undef :: .undef :: .undef :: .undef :: .undef :: .undef :: .undef :: .undef :: .undef :: .undef :: .undef :: .undef :: .undef :: .undef :: .undef :: .undef :: .undef :: .undef :: .undef :: .undef :: .undef :: .undef :: .undef :: .undef :: .undef :: .undef :: .undef :: .undef :: .undef :: .undef :: .own 0 :: .int .i64 x :: .int .i64 x1 :: []), [.row zq0 x2] => (match FT.sames zq0 ft7 with | true => F4_2042 fu x x2 n x1 (K .ret [.undef, .undef, .undef, .undef, .bool (false)] []) (K (.exit 2) [.undef, .undef, .undef, .undef, .undef] []) | false => none)
  | _, _ => none

noncomputable def pc4_2042 (fu : Nat) : Nat → Option ToldP := fun _ => none
theorem e4_2042 (fu n : Nat) (R : Type) (K : VExit → UEnv → USt → Option R) (x : Int) (x1 : Int) (x2 : List (List D)) :
    F4_2042 fu x x2 (n + 1) x1 (K .ret [.undef, .undef, .undef, .undef, .bool (false)] []) (K (.exit 2) [.undef, .undef, .undef, .undef, .undef] []) = uexec Try.prog (tb16 fu) 300 (pc4_2042 fu) 4084 (loopBody (codeAt code4 2042)) (.undef :: .undef :: .undef :: .undef :: .undef :: .undef :: .undef :: .undef :: .undef :: .undef :: .undef :: .undef :: .undef :: .undef :: .undef :: .undef :: .undef :: .undef :: .undef :: .undef :: .undef :: .undef :: .undef :: .undef :: .undef :: .undef :: .undef :: .undef :: .undef :: .undef :: .undef :: .undef :: .undef :: .undef :: .undef :: .undef :: .undef :: .undef :: .undef :: .undef :: .undef :: .undef :: .undef :: .undef :: .undef :: .undef :: .undef :: .undef :: .undef :: .undef :: .undef :: .undef :: .undef :: .undef :: .undef :: .undef :: .undef :: .undef :: .undef :: .undef :: .undef :: .undef :: .undef :: .undef :: .undef :: .undef :: .undef :: .undef :: .undef :: .undef :: .undef :: .undef :: .undef :: .undef :: .own 0 :: .int .i64 x :: .int .i64 x1 :: []) [.row ft7 x2] (loopK 0 [.live (false :: false :: false :: false :: false :: false :: false :: false :: false :: false :: false :: false :: false :: false :: false :: false :: false :: false :: false :: false :: false :: false :: false :: false :: false :: false :: false :: false :: false :: false :: false :: false :: false :: false :: false :: false :: false :: false :: false :: false :: false :: false :: false :: false :: false :: false :: false :: false :: false :: false :: false :: false :: false :: false :: false :: false :: false :: false :: false :: false :: false :: false :: false :: false :: false :: false :: false :: false :: false :: false :: false :: false :: false :: false :: true :: true :: true :: []), .ownP 74 [] ft7, .gc] [.live [false, false, false, false, true], .gc] (t4_2042 fu n) K) := by kernel_rfl

theorem p4_2042 (fu : Nat) : SoundPc Try.prog 0 code4 (pc4_2042 fu) := SoundPc.none _ _ _
theorem s4_2042 (fu : Nat) : ∀ n, SoundP Try.prog 0 (.loop (loopBody (codeAt code4 2042))) (t4_2042 fu n) := by
  refine loop_sound (gin := [.live (false :: false :: false :: false :: false :: false :: false :: false :: false :: false :: false :: false :: false :: false :: false :: false :: false :: false :: false :: false :: false :: false :: false :: false :: false :: false :: false :: false :: false :: false :: false :: false :: false :: false :: false :: false :: false :: false :: false :: false :: false :: false :: false :: false :: false :: false :: false :: false :: false :: false :: false :: false :: false :: false :: false :: false :: false :: false :: false :: false :: false :: false :: false :: false :: false :: false :: false :: false :: false :: false :: false :: false :: false :: false :: true :: true :: true :: []), .ownP 74 [] ft7, .gc]) (gout := [.live [false, false, false, false, true], .gc]) (k := 300) (tb16_sound fu) (p4_2042 fu) (by decide) a4_2042 (fun R e s K => ?_) (fun n R e s K r h => ?_)
  · unfold t4_2042; repeat' split
    all_goals rfl
  · unfold t4_2042 at h; split at h
    case h_2 => cases h
    split at h
    case h_2 => cases h
    rename_i hq
    have hq := FT.sames_eq _ _ hq
    subst hq
    exact (e4_2042 fu n R K _ _ _).symm.trans h


noncomputable def F4 {R : Type} (fu : Nat) (id : Int) (gives : List (List D)) (k0 : Bool → Option R) : Option R :=
  F17 fu id (bif decide (id < 1) then F16 fu fun o0 => (k0 o0) else bif decide (60 < id) then F16 fu fun o1 => (k0 o1) else bif decide (60 < ofN gives.length) then F16 fu fun o2 => (k0 o2) else (k0 false)) (bif decide (60 < ofN gives.length) then bif decide (id < 1) then F16 fu fun o3 => (k0 o3) else bif decide (60 < id) then F16 fu fun o4 => (k0 o4) else bif decide (60 < ofN gives.length) then F16 fu fun o5 => (k0 o5) else (k0 false) else F4_250 fu id gives (ofN gives.length) id fu 0 0 false [] (fun o6 o7 => (k0 false)) fun o8 o9 o10 => F20 fu id o10 o9 fun o11 => bif !decide (ofN o11.length = o8) then (k0 false) else F4_2042 fu (ofN o11.length) o11 fu 0 ((k0 false)) (F16 fu fun o12 => (k0 o12)))

noncomputable def pc4 (fu : Nat) : Nat → Option ToldP := fun p => match Nat.beq p 250 with | true => some (ghP 0 [.live (true :: false :: false :: false :: false :: true :: true :: false :: false :: false :: false :: false :: false :: false :: false :: false :: false :: false :: false :: false :: false :: false :: false :: false :: false :: false :: false :: false :: false :: false :: false :: false :: false :: false :: false :: false :: false :: true :: true :: true :: []), .fzP 37 [] ft10, .gc, .ownC 0 1 ft7, .gc] (t4_250 fu fu)) | false => match Nat.beq p 2042 with | true => some (ghP 0 [.live (false :: false :: false :: false :: false :: false :: false :: false :: false :: false :: false :: false :: false :: false :: false :: false :: false :: false :: false :: false :: false :: false :: false :: false :: false :: false :: false :: false :: false :: false :: false :: false :: false :: false :: false :: false :: false :: false :: false :: false :: false :: false :: false :: false :: false :: false :: false :: false :: false :: false :: false :: false :: false :: false :: false :: false :: false :: false :: false :: false :: false :: false :: false :: false :: false :: false :: false :: false :: false :: false :: false :: false :: false :: false :: true :: true :: true :: []), .ownP 74 [] ft7, .gc] (t4_2042 fu fu)) | false => none
noncomputable def t4 (fu : Nat) : ToldF := fun _ args s K => match args, s with
  | [.int .i64 id, .fz zq0 gives false], [] => (match FT.sames zq0 ft10 with | true => F4 fu id gives (fun o => K (.bool o) []) | false => none)
  | _, _ => none

theorem e4 (R : Type) (K : UV → USt → Option R) (fu : Nat) (id : Int) (gives : List (List D)) :
    F4 fu id gives (fun o => K (.bool o) []) = ufun Try.prog ⟨(tb16 fu), pc4 fu⟩ 300 4 [.int .i64 id, .fz ft10 gives false] [] (funK 0 [.gc] K) := by kernel_rfl

theorem s4 (fu : Nat) : Tells Try.prog 4 (t4 fu) := by
  refine ufun_sound (T := ⟨(tb16 fu), pc4 fu⟩) (m := 0) (gout := [.gc]) (k := 300) (tb16_sound fu) (fun fn body hf hb => ?_) (fun R args s K r h => ?_) (fun R args s K r h => ?_)
  · have hc : body = code4 := by
      have h1 : Try.prog.funcs[4]? = some Try.f4 := rfl
      rw [h1] at hf; cases hf
      have h2 : Try.f4.body = some code4 := rfl
      rw [h2] at hb; cases hb; rfl
    subst hc
    exact fun p told h b hb => by
      replace h : pc4 fu p = some told := h
      unfold pc4 at h
      split at h
      · rename_i hp
        cases h
        have := Nat.eq_of_beq_eq_true hp
        subst this
        rw [a4_250] at hb
        cases hb
        exact ghP_sound (s4_250 fu _)
      ·
        split at h
        · rename_i hp
          cases h
          have := Nat.eq_of_beq_eq_true hp
          subst this
          rw [a4_2042] at hb
          cases hb
          exact ghP_sound (s4_2042 fu _)
        ·
          cases h

  · unfold t4 at h; split at h
    · rfl
    · cases h
  · unfold t4 at h; split at h
    case h_2 => cases h
    split at h
    case h_2 => cases h
    rename_i hq
    have hq := FT.sames_eq _ _ hq
    subst hq
    exact (e4 R K fu _ _).symm.trans h

noncomputable def tb4 (fu : Nat) : FuncId → Option (Bool × ToldF) := fun f => match Nat.beq f 4 with
  | true => some (false, ghF [.fzP 1 [] ft10] (t4 fu))
  | false => (tb16 fu) f
theorem tb4_sound (fu : Nat) : SoundF' Try.prog (tb4 fu) := by
  intro f own told h
  unfold tb4 at h
  split at h
  · rename_i hb
    cases h
    have := Nat.eq_of_beq_eq_true hb
    subst this
    exact ghF_sound (s4 fu)
  · exact (tb16_sound fu) f own told h

end Go.Proofs.Ytdoikghgblohjaa.V

/- awake answers true. -/
namespace Go.Proofs.Ytdoikghgblohjaa.V
theorem awake16 {R : Type} (m : Nat) (k0 : Bool → Option R) : F16 (m + 2) k0 = k0 true := by kernel_rfl
end Go.Proofs.Ytdoikghgblohjaa.V

/- ClientCounts: what its code computes is true. -/
namespace Go.Proofs.Ytdoikghgblohjaa.V

theorem wrap_of {x : Int} (h0 : -9223372036854775808 ≤ x) (h1 : x ≤ 9223372036854775807) : IntKind.i64.wrap x = x := by
  rw [IntKind.wrap_i64]; omega

theorem fits_of {n b : Nat} (hn : n ≤ 1000000) (hb : b ≤ 1000) : fits n b = true := by
  unfold fits maxBytes
  have : n * b ≤ 1000000 * 1000 := Nat.mul_le_mul hn hb
  exact decide_eq_true ⟨by omega, by omega⟩

/-- A call that ClientCounts has begun. -/
def call4 (id : Int) (j : Nat) : List D := [D.int id, D.int ((j : Int) + 1), D.int 3, D.str { data := #[] }, D.int 0, D.int 0, D.int 0, D.int 0, D.int 0, D.str { data := #[] }, D.bool false, D.str { data := #[] }, D.str { data := #[] }, D.str { data := #[] }, D.str { data := #[] }, D.row [], D.int 0, D.int 0, D.int j, D.int 0, D.bool false, D.int 0, D.nil, D.nil]
def told4 (id : Int) (j : Nat) : List D := [D.int id, D.int ((j : Int) + 1), D.int 3, D.str { data := #[] }, D.int 0, D.int 0, D.int 0, D.int 0, D.int 0, D.str { data := #[] }, D.bool false, D.str { data := #[] }, D.str { data := #[] }, D.str { data := #[] }, D.str { data := #[] }, D.row [], D.int 0, D.int 0]
def calls4 (id : Int) (n : Nat) : List (List D) := (List.range n).map (call4 id)
/-- The same, as Calls tells it. -/
def copy4 (id : Int) (j : Nat) : List D := [D.int id, D.int ((j : Int) + 1), D.int 3, D.str { data := #[] }, D.int 0, D.int 0, D.int 0, D.int 0, D.int 0, D.str { data := #[] }, D.bool false, D.str { data := #[] }, D.str { data := #[] }, D.str { data := #[] }, D.str { data := #[] }, D.row [], D.int 0, D.int 0, D.int j, D.int 0, D.bool false, D.int 0, D.row [], D.row []]
def copies4 (id : Int) (n : Nat) : List (List D) := (List.range n).map (copy4 id)

theorem calls4_len (id : Int) (n : Nat) : (calls4 id n).length = n := by simp [calls4]
theorem copies4_len (id : Int) (n : Nat) : (copies4 id n).length = n := by simp [copies4]
theorem calls4_succ (id : Int) (n : Nat) : calls4 id (n + 1) = calls4 id n ++ [call4 id n] := by simp [calls4, List.range_succ]
theorem copies4_succ (id : Int) (n : Nat) : copies4 id (n + 1) = copies4 id n ++ [copy4 id n] := by simp [copies4, List.range_succ]
theorem calls4_elem (id : Int) {n j : Nat} (h : j < n) : elem j (calls4 id n) = call4 id j := by
  simp [elem, calls4, List.getD_eq_getElem?_getD, h]
theorem copies4_elem (id : Int) {n j : Nat} (h : j < n) : elem j (copies4 id n) = copy4 id j := by
  simp [elem, copies4, List.getD_eq_getElem?_getD, h]

theorem within_of {j n : Nat} (h : j < n) : within (j : Int) n = true := by
  unfold within; exact decide_eq_true ⟨by omega, by omega⟩

variable {R : Type}

theorem F62_none (fu : Nat) (x : List D) (k : List D → Option R) (h : (cell 15 x).toRows = []) : F62 fu x k = k x := by
  unfold F62 F78; rw [h]; rfl

theorem F63_none (fu : Nat) (x : List D) (k : List D → Option R) (h1 : (cell 1 x).toRows = []) (h2 : (cell 2 x).toRows = []) : F63 fu x k = k x := by
  unfold F63 F79 F80; rw [h1, h2]; rfl

theorem begin4 (fu : Nat) (id : Int) (n : Nat) (hn : n ≤ 60) (k0 : Option R) (k1 : List D → List (List D) → Option R) :
    F18 fu (n : Int) [D.int 0, D.int 0, D.int 3, D.str { data := #[] }, D.int 0, D.int 0, D.int 0, D.int 0, D.int 0, D.str { data := #[] }, D.bool false, D.str { data := #[] }, D.str { data := #[] }, D.str { data := #[] }, D.str { data := #[] }, D.row [], D.int 0, D.int 0] id (calls4 id n) false k0 k1 = k1 (told4 id n) (calls4 id (n + 1)) := by
  unfold F18
  rw [F62_none _ _ _ rfl, calls4_len, fits_of (by omega) (by omega)]
  have hw : IntKind.i64.wrap (ofN n + 1) = (n : Int) + 1 := wrap_of (by unfold ofN; omega) (by unfold ofN; omega)
  rw [hw]
  simp only [cond_false, cond_true]
  rw [F62_none _ _ _ rfl, calls4_succ]
  rfl

theorem begun4 (fu : Nat) (id : Int) (now : Int) (cmd : List D) (y : List (List D)) (k0 : Option R) (k1 : List D → List (List D) → Option R) : F18 fu now cmd id y true k0 k1 = k0 := rfl

/-- The first loop. -/
theorem loop4 (fu : Nat) (id : Int) (x : List (List D)) (hx : x.length ≤ 60) (k0 : Int → List (List D) → Option R) (k1 : Int → Bool → List (List D) → Option R) (r : Option R) (hr : ∀ (m : Nat) (b : Bool), m ≤ x.length → k1 (m : Int) b (calls4 id m) = r) :
    ∀ (n i m : Nat) (b : Bool), x.length + 1 ≤ i + n → i ≤ x.length → m ≤ i → F4_250 fu id x (ofN x.length) id n (m : Int) (i : Int) b (calls4 id m) k0 k1 = r := by
  intro n
  induction n with
  | zero => intro i m b h1 h2; omega
  | succ n ih =>
    intro i m b h1 h2 h3
    unfold F4_250
    by_cases hi : i < x.length
    · have e1 : decide ((i : Int) < ofN x.length) = true := decide_eq_true (by unfold ofN; omega)
      have e2 : IntKind.i64.wrap ((i : Int) + 1) = ((i + 1 : Nat) : Int) := by rw [wrap_of (by omega) (by omega)]; rfl
      have e3 : IntKind.i64.wrap ((m : Int) + 1) = ((m + 1 : Nat) : Int) := by rw [wrap_of (by omega) (by omega)]; rfl
      rw [e1, within_of hi, e2, e3]
      simp only [cond_true]
      cases b with
      | true =>
        rw [begun4]
        cases hb : (cell 0 (elem (i : Int).toNat x)).toBool with
        | true => simp only [cond_true]; unfold F24; exact ih (i + 1) m false (by omega) (by omega) (by omega)
        | false => simp only [cond_false]; exact ih (i + 1) m true (by omega) (by omega) (by omega)
      | false =>
        rw [begin4 fu id m (by omega)]
        have q1 : (cell 0 (told4 id m)).toInt = id := rfl
        have q2 : (cell 1 (told4 id m)).toInt = ((m + 1 : Nat) : Int) := rfl
        simp only [q1, q2, decide_true, Bool.not_true, cond_false]
        cases hb : (cell 0 (elem (i : Int).toNat x)).toBool with
        | true => simp only [cond_true]; unfold F24; exact ih (i + 1) (m + 1) false (by omega) (by omega) (by omega)
        | false => simp only [cond_false]; exact ih (i + 1) (m + 1) true (by omega) (by omega) (by omega)
    · have e1 : decide ((i : Int) < ofN x.length) = false := decide_eq_false (by unfold ofN; omega)
      rw [e1]
      simp only [cond_false]
      exact hr m b (by omega)

/-- What Calls tells. -/
theorem calls4_told (fu : Nat) (id : Int) (N : Nat) (hN : N ≤ 60) (k : List (List D) → Option R) :
    ∀ (n i : Nat), N + 1 ≤ i + n → i ≤ N → F20_58 fu (ofN N) (calls4 id N) n (i : Int) (copies4 id i) k = k (copies4 id N) := by
  intro n
  induction n with
  | zero => intro i h1 h2; omega
  | succ n ih =>
    intro i h1 h2
    unfold F20_58
    by_cases hi : i < N
    · have e1 : decide ((i : Int) < ofN N) = true := decide_eq_true (by unfold ofN; omega)
      have e2 : IntKind.i64.wrap ((i : Int) + 1) = ((i + 1 : Nat) : Int) := by rw [wrap_of (by omega) (by omega)]; rfl
      have e4 : elem (i : Int).toNat (calls4 id N) = call4 id i := by rw [Int.toNat_natCast]; exact calls4_elem id hi
      rw [e1, calls4_len, within_of hi, e2, e4, F62_none _ _ _ rfl, F63_none _ _ _ rfl rfl, copies4_len, fits_of (by omega) (by omega)]
      simp only [cond_true]
      have := ih (i + 1) (by omega) (by omega)
      rw [copies4_succ] at this
      exact this
    · have e1 : decide ((i : Int) < ofN N) = false := decide_eq_false (by unfold ofN; omega)
      rw [e1]
      have : i = N := by omega
      subst this
      rfl

/-- The last loop. -/
theorem look4 (fu : Nat) (id : Int) (N : Nat) (hN : N ≤ 60) (k0 k1 : Option R) :
    ∀ (n i : Nat), N + 1 ≤ i + n → i ≤ N → F4_2042 fu (ofN N) (copies4 id N) n (i : Int) k0 k1 = k1 := by
  intro n
  induction n with
  | zero => intro i h1 h2; omega
  | succ n ih =>
    intro i h1 h2
    unfold F4_2042
    by_cases hi : i < N
    · have e1 : decide ((i : Int) < ofN N) = true := decide_eq_true (by unfold ofN; omega)
      have e2 : IntKind.i64.wrap ((i : Int) + 1) = ((i + 1 : Nat) : Int) := by rw [wrap_of (by omega) (by omega)]; rfl
      have e4 : elem (i : Int).toNat (copies4 id N) = copy4 id i := by rw [Int.toNat_natCast]; exact copies4_elem id hi
      rw [e1, copies4_len, within_of hi, e2, e4]
      have q1 : (cell 20 (copy4 id i)).toBool = false := rfl
      have q2 : (cell 1 (copy4 id i)).toInt = ((i + 1 : Nat) : Int) := rfl
      have q3 : (cell 18 (copy4 id i)).toInt = (i : Int) := rfl
      have q4 : (cell 19 (copy4 id i)).toInt = 0 := rfl
      simp only [q1, q2, q3, q4, decide_true, Bool.not_true, cond_true, cond_false]
      exact ih (i + 1) (by omega) (by omega)
    · have e1 : decide ((i : Int) < ofN N) = false := decide_eq_false (by unfold ofN; omega)
      rw [e1]
      rfl

theorem counts4 (id : Int) (gives : List (List D)) : F4 62 id gives (fun o => some o) = some true := by
  unfold F4 F17
  rw [awake16 60]
  by_cases h1 : id < 1
  · rw [decide_eq_true h1]; rfl
  · rw [decide_eq_false h1]
    by_cases h2 : 60 < id
    · rw [decide_eq_true h2]; rfl
    · rw [decide_eq_false h2]
      simp only [cond_false]
      by_cases h3 : 60 < ofN gives.length
      · rw [decide_eq_true h3]; rfl
      · rw [decide_eq_false h3]
        have hx : gives.length ≤ 60 := by unfold ofN at h3; omega
        simp only [cond_false]
        refine loop4 62 id gives hx _ _ (some true) (fun m b hm => ?_) 62 0 0 false (by omega) (by omega) (by omega)
        unfold F20
        rw [calls4_len]
        refine (calls4_told 62 id m (by omega) _ 62 0 (by omega) (by omega)).trans ?_
        simp only
        rw [copies4_len]
        have e1 : decide (ofN m = (m : Int)) = true := decide_eq_true rfl
        rw [e1]
        simp only [Bool.not_true, cond_false]
        exact look4 62 id m (by omega) _ _ 62 0 (by omega) (by omega)
end Go.Proofs.Ytdoikghgblohjaa.V

/- ClientCounts: V's law. -/
namespace Go.Proofs.Ytdoikghgblohjaa.V

theorem law4 : Law Try.prog 4 Try.f4.params.toList := by
  refine law_of_told (by kernel_rfl) (by kernel_rfl) (s4 62) (fun dss hw => ?_)
  have hts : Try.f4.params.toList = [3, 51] := rfl
  rw [hts] at hw
  cases hw with
  | cons t ts fts ds1 dss1 hf hd hr =>
    cases hr with
    | cons t2 ts2 fts2 ds2 dss2 hf2 hd2 hr2 =>
      cases hr2
      have h1 : t4 62 Bool (argsU Try.prog Try.f4.params.toList [ds1, ds2]) [] boolK = F4 62 (cell 0 ds1).toInt (cell 0 ds2).toRows (fun o => some o) := by kernel_rfl
      exact h1.trans (counts4 _ _)
end Go.Proofs.Ytdoikghgblohjaa.V

namespace Go.Proofs.Ytdoikghgblohjaa

theorem counts_holds : Rows.ClientCountsSaid := counts_join V.law4

end Go.Proofs.Ytdoikghgblohjaa

