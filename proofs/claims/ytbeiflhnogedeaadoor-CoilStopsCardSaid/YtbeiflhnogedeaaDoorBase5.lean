import Derived.Test.YtbeiflhnogedeaaDoorBase4
import Derived.Test.YtbeiflhnogedeaaDoorChecked
import Derived.KernelRfl
set_option linter.unusedVariables false
set_option linter.unusedSimpArgs false

/- U: functions that are told by a contract. -/
namespace Go.Proofs.YtbeiflhnogedeaaDoor.V

/-! Words on data. -/
def dV : D → VV
  | .str s => .str s
  | .int n => .int .i64 n
  | _ => .undef
def keyLeD : D → D → Bool
  | .int a, .int b => decide (a ≤ b)
  | .str a, .str b => !strLt b a
  | _, _ => false
/-- Keys in order, a row each. -/
def keysD (es : List (D × List D)) : List (List D) := (sortK keyLeD (es.map (·.1))).map fun k => [k]
def strKeyD : D → Bool
  | .str s => decide (s.size ≤ maxBytes)
  | _ => false
def intKeyD : D → Bool
  | .int n => decide (-9223372036854775808 ≤ n ∧ n ≤ 9223372036854775807)
  | _ => false
def allKeys (f : D → Bool) : List (D × List D) → Bool
  | [] => true
  | p :: r => f p.1 && allKeys f r
def keysOK (es : List (D × List D)) : Bool := allKeys strKeyD es && decide (es.length * 16 ≤ maxBytes)
def keysOKI (es : List (D × List D)) : Bool := allKeys intKeyD es && decide (es.length * 16 ≤ maxBytes)
def sumL : List (D × List D) → Int
  | [] => 0
  | p :: r => ofN (cell 0 p.2).toRows.length + sumL r
def usedD (es : List (D × List D)) : Int := IntKind.i64.wrap (sumL es)
def oneS (t : ByteArray) : Bool := match t.data.toList with
  | [_] => true
  | _ => false
def hasS (s t : ByteArray) : Bool := match t.data.toList with
  | [c] => hasByte s.data.toList c
  | _ => false
def roomN (n : Int) (bytes : Nat) : Bool := decide (0 ≤ n ∧ n.toNat * bytes ≤ maxBytes ∧ n.toNat ≤ maxBytes)

/-! What is told. -/
def toldMapClone : ToldF := fun _ args s K => match args, s with
  | [.map 0], [.map kf ag fts es] => K (.map 1) [.map kf ag fts es, .map kf ag fts es]
  | _, _ => none
def toldGrow (fts : List FT) (bytes : Nat) : ToldF := fun _ args s K => match args, s with
  | [.nilslice, .int .i64 n], [] => cond (roomN n bytes) (K (.own 0) [.row fts []]) none
  | _, _ => none
def toldContains : ToldF := fun _ args s K => match args, s with
  | [.str x, .str t], [] => cond (oneS t) (K (.bool (hasS x t)) []) none
  | _, _ => none
def toldUsed (fts0 : List FT) : ToldF := fun _ args s K => match args, s with
  | [.ptr 0 0], [.obj [x, .map 1], .map .str true fts es] => match FT.sames fts0 fts with
    | true => cond (keysOK es) (K (.int .i64 (usedD es)) [.obj [x, .map 1], .map .str true fts es]) none
    | false => none
  | _, _ => none
def toldKeysS : ToldF := fun _ args s K => match args, s with
  | [.ptr 0 0], [.obj [x, .map 1], .map .str ag fts es] => cond (keysOK es) (K (.own 2) [.obj [x, .map 1], .map .str ag fts es, .row [.str] (keysD es)]) none
  | _, _ => none

section
variable {P : Program} {c : Cx} {h : VHeap} {s : USt}

/-- A new map, with entries. -/
theorem new_map2 {T : Nat → Prop} (hs : RSt c h s) {kf : FT} {ag : Bool} {fts : List FT} (hk : isKey kf = true) {es : List (D × List D)} {ves : List (VV × VV)} (hm : MRel h.get c.K kf ag fts es ves) :
    ∃ c', RSt c' (h.push (.map ves)) (s.push (.map kf ag fts es)) ∧ RV c' (h.push (.map ves)).get (.map s.len) (.map h.next) ∧ Later c h c' (h.push (.map ves)) T := by
  have hg : (h.push (.map ves)).get h.next = some (.map ves) := by rw [VHeap.get_push, if_pos rfl]
  have hL : ∀ T : Nat → Prop, Later c h (c.add (.map h.next) (some h.next)) (h.push (.map ves)) T := fun T => hs.laterAdd _ _ (by simp) (fun b o hb => push_old _ hb) (fun f hf => by cases hf; exact Nat.le_refl _) T
  have hρ : (c.add (.map h.next) (some h.next)).ρ c.n = .map h.next := by show (if c.n = c.n then _ else _) = _; rw [if_pos rfl]
  have hm' := hm.keep ((hL (fun _ => False)).keeps (fun _ _ h => h))
  refine ⟨c.add (.map h.next) (some h.next), hs.add ?_ (by simp) (fun b o hb => push_old _ hb) (fun f hf => by cases hf; exact ⟨Nat.le_refl _, by simp⟩) ?_, ?_, hL _⟩
  · exact hs.wf.push _ (fun k hk => by cases hk)
  · exact .map kf ag fts es h.next ves hg hk hm'.len hm'.at_
  · exact .map _ _ (by rw [hs.len]; exact Nat.lt_succ_self _) (by rw [hs.len]; exact hρ)

theorem mapClone_tells {g : FuncId} (hX : seatX g = some xClone) : Tells P g toldMapClone := by
  intro R args st K r hu c h vargs hs hr
  unfold toldMapClone at hu
  split at hu
  · rename_i kf ag fts es
    obtain ⟨v, rfl, hv⟩ := hr.inv1
    obtain ⟨b, ves, hρ, hφ, hg, hk, hm⟩ := map_obj hs (o := 0) rfl
    have : v = .map b := by
      cases hv with
      | map _ b' _ hb => rw [hρ] at hb; exact hb.symm ▸ rfl
    subst this
    obtain ⟨c1, s1, v1, l1⟩ := new_map2 (T := c.fams) hs hk hm
    refine VC.told hX (v := .map h.next) (h' := h.push (.map ves)) (by simp [xClone, hg]) ?_
    exact ⟨_, _, c1, s1, v1, l1, hu⟩
  · cases hu

theorem contains_tells {g : FuncId} (hX : seatX g = some xContains) : Tells P g toldContains := by
  intro R args st K r hu c h vargs hs hr
  unfold toldContains at hu
  split at hu
  · rename_i x t
    obtain ⟨q, hK⟩ := cond_some hu
    obtain ⟨v, w, rfl, hv, hw⟩ := hr.inv2
    cases hv; cases hw
    unfold oneS at q
    split at q
    · rename_i cc hc
      refine VC.told hX (v := .bool (hasByte x.data.toList cc)) (h' := h) (by simp [xContains, hc]) ?_
      refine ⟨_, _, c, hs, .bool _, Later.refl _ _ _, ?_⟩
      have : hasS x t = hasByte x.data.toList cc := by unfold hasS; rw [hc]
      rw [← this]; exact hK
    · cases q
  · cases hu

theorem grow_tells {g : FuncId} {fts : List FT} {bytes : Nat} {z : List VV} (hX : seatX g = some (xGrow z bytes)) (hz : z.length = fts.length) (h0 : 0 < fts.length) : Tells P g (toldGrow fts bytes) := by
  intro R args st K r hu c h vargs hs hr
  unfold toldGrow at hu
  split at hu
  · rename_i n
    obtain ⟨q, hK⟩ := cond_some hu
    obtain ⟨v, w, rfl, hv, hw⟩ := hr.inv2
    cases hv; cases hw
    unfold roomN at q
    have q := of_decide_eq_true q
    by_cases hn : n = 0
    · subst hn
      obtain ⟨a1, a2, a3⟩ := addNil hs fts c.fams
      refine VC.told hX (v := .nilslice) (h' := h) (by simp [xGrow]) ?_
      exact ⟨_, _, _, a1, a3, a2, hK⟩
    · obtain ⟨c1, s1, v1, l1⟩ := new_row (T := c.fams) hs h0 (es := []) (xs := List.replicate n.toNat z) (n := 0) (z := z.length) (cp := none) hz rfl (fun q hq => by cases hq) ⟨by simp, by simp⟩
      refine VC.told hX (v := .slice h.next 0 0 none z.length) (h' := fresh h (List.replicate n.toNat z) z.length) ?_ ?_
      · simp only [xGrow]; rw [if_neg hn, if_pos ⟨by omega, q.2.1, q.2.2⟩]
      · exact ⟨_, _, c1, s1, v1, l1, hK⟩
  · cases hu

/-- The map in a variable's second cell. -/
theorem map_cell (hs : RSt c h s) {x : UV} {kf : FT} {ag : Bool} {fts : List FT} {es : List (D × List D)} (h0 : s.get 0 = .obj [x, .map 1]) (h1 : s.get 1 = .map kf ag fts es) {v : VV} (hv : RV c h.get (.ptr 0 0) v) :
    ∃ b m ves, v = .ptr b 0 0 ∧ rd h b 0 (0 + 1) 1 = some [.map m] ∧ h.get m = some (.map ves) ∧ isKey kf = true ∧ MRel h.get c.K kf ag fts es ves := by
  obtain ⟨m, ves, hρ1, _, hg, hk, hm⟩ := map_obj hs h1
  cases hv with
  | ptr _ _ b ho hb =>
    have hro := hs.obj 0
    rw [h0, hb] at hro
    generalize c.φ 0 = fm at hro
    cases hro with
    | obj cs _ k xs hgb hes hz hro hso hx hr =>
      have hl := hr.1
      match xs, hl, hr with
      | [a, d], _, hr =>
        have hd := hr.tail.head
        have : d = .map m := by
          cases hd with
          | map _ b' _ hb' => rw [hρ1] at hb'; exact hb'.symm ▸ rfl
        subst this
        exact ⟨b, m, ves, rfl, by simp [rd, hgb, hes], hg, hk, hm⟩

theorem allKeys_iff {f : D → Bool} : ∀ {es : List (D × List D)}, allKeys f es = true → ∀ p ∈ es, f p.1 = true
  | [], _, p, hp => by simp at hp
  | q :: r, h, p, hp => by
    simp only [allKeys, Bool.and_eq_true] at h
    rcases List.mem_cons.1 hp with rfl | hp
    · exact h.1
    · exact allKeys_iff h.2 p hp

theorem keys_rel {g : VG} {K : Nat → Prop} {ag : Bool} {fts : List FT} : ∀ {es : List (D × List D)} {ves : List (VV × VV)}, MRel g K .str ag fts es ves → allKeys strKeyD es = true → ves.map (·.1) = (es.map (·.1)).map dV ∧ (ves.map (·.1)).all isStrV = true ∧ ∀ p ∈ es, ∃ x, p.1 = D.str x
  | [], ves, h, _ => by rw [h.inv0]; simp
  | (k, ds) :: es, ves, h, hk => by
    obtain ⟨x, v, xs, ves', rfl, h1, _, _, h4⟩ := h.inv
    simp only [allKeys, Bool.and_eq_true] at hk
    obtain ⟨e1, e2, e3⟩ := keys_rel h4 hk.2
    cases h1 with
    | str s0 =>
      have hk1 : decide (s0.size ≤ maxBytes) = true := hk.1
      refine ⟨by simp only [List.map_cons, e1]; rfl, ?_, fun p hp => ?_⟩
      · simp only [List.map_cons, List.all_cons, e2, Bool.and_true, isStrV]; exact hk1
      · rcases List.mem_cons.1 hp with rfl | hp
        · exact ⟨_, rfl⟩
        · exact e3 p hp

theorem keyLe_dV (a b : D) : keyLe (dV a) (dV b) = keyLeD a b := by cases a <;> cases b <;> rfl

theorem keysS_tells {g : FuncId} (hX : seatX g = some (xKeys 1 isStrV)) : Tells P g toldKeysS := by
  intro R args st K r hu c h vargs hs hr
  unfold toldKeysS at hu
  split at hu
  · rename_i x ag fts es
    obtain ⟨q, hK⟩ := cond_some hu
    unfold keysOK at q
    simp only [Bool.and_eq_true, decide_eq_true_eq] at q
    obtain ⟨v, rfl, hv⟩ := hr.inv1
    obtain ⟨b, m, ves, rfl, hrd, hg, _, hm⟩ := map_cell hs (kf := .str) (ag := ag) (fts := fts) (es := es) rfl rfl hv
    obtain ⟨e1, e2, e3⟩ := keys_rel hm q.1
    have hlen : ves.length * 16 ≤ maxBytes := by rw [hm.len]; exact q.2
    have hsort : sortK keyLe (ves.map (·.1)) = (sortK keyLeD (es.map (·.1))).map dV := by rw [e1]; exact sortK_map dV keyLeD keyLe keyLe_dV _
    have hmem : ∀ k ∈ sortK keyLeD (es.map (·.1)), ∃ x, k = D.str x := by
      intro k hk
      have := (perm_sortK keyLeD (es.map (·.1))).mem_iff.1 hk
      obtain ⟨p, hp, rfl⟩ := List.mem_map.1 this
      exact e3 p hp
    have hkd : keysD es = (sortK keyLeD (es.map (·.1))).map fun k => [k] := rfl
    generalize hq : sortK keyLeD (es.map (·.1)) = ks at hsort hmem hkd
    cases ks with
    | nil =>
      refine VC.told hX (v := .nilslice) (h' := h) ?_ ?_
      · simp only [xKeys, hrd, hg, e2, hlen, decide_true, Bool.and_self, hsort, List.map_nil]
      · obtain ⟨a1, a2, a3⟩ := addNil hs [.str] c.fams
        refine ⟨_, _, _, a1, a3, a2, ?_⟩
        rw [hkd] at hK
        exact hK
    | cons k0 ks =>
      have hseg : Seg h.get c.K [.str] ((k0 :: ks).map fun k => [k]) (((k0 :: ks).map dV).map fun x => [x]) 0 := by
        refine ⟨by simp, fun j r cs h1 h2 => ?_⟩
        rw [Nat.zero_add] at h2
        rw [List.getElem?_map] at h1 h2
        rw [List.getElem?_map] at h2
        cases hkj : (k0 :: ks)[j]? with
        | none => rw [hkj] at h1; cases h1
        | some k =>
          rw [hkj] at h1 h2
          simp only [Option.map_some, Option.some.injEq] at h1 h2
          subst h1; subst h2
          obtain ⟨x, rfl⟩ := hmem k (List.mem_of_getElem? hkj)
          exact RDL.cons (.str x) (RDL.nil _ _)
      obtain ⟨c1, s1, v1, l1⟩ := new_row (T := c.fams) hs (fts := [.str]) (by decide) (es := (k0 :: ks).map fun k => [k]) (xs := ((k0 :: ks).map dV).map fun x => [x]) (n := (k0 :: ks).length) (z := 1) (cp := none) rfl (by simp) (fun q hq => by cases hq) hseg
      refine VC.told hX (v := .slice h.next 0 (k0 :: ks).length none 1) (h' := fresh h (((k0 :: ks).map dV).map fun x => [x]) 1) ?_ ?_
      · simp only [xKeys, hrd, hg, e2, hlen, decide_true, Bool.and_self, hsort, List.map_cons]
        simp
      · refine ⟨_, _, c1, s1, v1, l1, ?_⟩
        rw [hkd] at hK
        exact hK
  · cases hu

theorem used_tells {g : FuncId} (hX : seatX g = some (xUsed 1)) {bytes : Nat} {el : List FT} : Tells P g (toldUsed [.row bytes el, .int .i64]) := by
  intro R args st K r hu c h vargs hs hr
  unfold toldUsed at hu
  split at hu
  · rename_i x fts es
    split at hu
    · rename_i hft
      have hft := FT.sames_eq _ _ hft
      subst hft
      obtain ⟨q, hK⟩ := cond_some hu
      unfold keysOK at q
      simp only [Bool.and_eq_true, decide_eq_true_eq] at q
      obtain ⟨v, rfl, hv⟩ := hr.inv1
      obtain ⟨b, m, ves, rfl, hrd, hg, _, hm⟩ := map_cell hs (kf := .str) (ag := true) (fts := [.row bytes el, .int .i64]) (es := es) rfl rfl hv
      obtain ⟨e1, e2, e3⟩ := keys_rel hm q.1
      have hlen : ves.length * 16 ≤ maxBytes := by rw [hm.len]; exact q.2
      have hsum : ∀ {es : List (D × List D)} {ves : List (VV × VV)}, MRel h.get c.K .str true [.row bytes el, .int .i64] es ves → sumLens ves = some (sumL es) := by
        intro es
        induction es with
        | nil => intro ves hm; rw [hm.inv0]; rfl
        | cons p r ih =>
          intro ves hm
          obtain ⟨k, ds⟩ := p
          obtain ⟨x, v, xs, ves', rfl, h1, h2, h3, h4⟩ := hm.inv
          have hv : v = .agg xs := h2
          subst hv
          have hl := h3.lenv
          have hld := h3.len
          match xs, hl, ds, hld, h3 with
          | [a, d], _, [da, dd], _, h3 =>
            have ha := h3.at_ 0 _ _ _ rfl rfl rfl
            have hd := h3.at_ 1 _ _ _ rfl rfl rfl
            have hone : lenOfV (.agg [a, d]) = some (ofN (cell 0 [da, dd]).toRows.length) := by
              cases hd
              cases ha with
              | nil => rfl
              | row0 => rfl
              | row _ _ rows b i n c z k hg hK hz hz' h0 hn hlen hc hl hr => subst hn; rfl
            simp only [sumLens, hone, ih h4, sumL]
      refine VC.told hX (v := .int .i64 (usedD es)) (h' := h) ?_ ?_
      · simp only [xUsed, hrd, hg, e2, hlen, decide_true, Bool.and_self, hsum hm]; rfl
      · exact ⟨_, _, c, hs, .int _ _, Later.refl _ _ _, hK⟩
    · cases hu
  · cases hu
end
end Go.Proofs.YtbeiflhnogedeaaDoor.V

/- V: numbers as text, beginnings, rows of text: what they tell is so, where the library's contracts stand; U: told. -/
namespace Go.Proofs.YtbeiflhnogedeaaDoor.V
open Go.RowKit

section
variable {P : Program}

theorem xItoa_sound {f : FuncId} (hcl : ∀ (i : Nat) (w : World), i < 100 → Calls P f #[.int .i64 i] w fun e w' => e = .returned (.string ⟨(digs i).toArray⟩) ∧ w' = w)
    {args : List VV} {h h' : VHeap} {v : VV} (hop : xItoa args h = some (v, h')) : SoundF P f args h v h' := by
  intro ρ w margs hR hw hrel _hG
  unfold xItoa at hop
  split at hop
  · rename_i n
    split at hop
    · rename_i hn
      simp only [Option.some.injEq, Prod.mk.injEq] at hop
      obtain ⟨rfl, rfl⟩ := hop
      obtain ⟨mv, rfl, hm⟩ := hrel.one_inv
      cases hm
      obtain ⟨k, rfl⟩ : ∃ k : Nat, n = (k : Int) := ⟨n.toNat, by omega⟩
      refine (hcl k w (by omega)).mono ?_
      rintro e w' ⟨rfl, rfl⟩
      exact ⟨_, ρ, rfl, Step.refl hR hw, .str _⟩
    · cases hop
  · cases hop

theorem xHasPrefix_sound {f : FuncId} (hcl : ∀ (s p : ByteArray) (w : World), Calls P f #[.string s, .string p] w fun e w' => e = .returned (.bool (hasPre s.data.toList p.data.toList)) ∧ w' = w)
    {args : List VV} {h h' : VHeap} {v : VV} (hop : xHasPrefix args h = some (v, h')) : SoundF P f args h v h' := by
  intro ρ w margs hR hw hrel _hG
  unfold xHasPrefix at hop
  split at hop
  · simp only [Option.some.injEq, Prod.mk.injEq] at hop
    obtain ⟨rfl, rfl⟩ := hop
    obtain ⟨ms, mt, rfl, h1, h2⟩ := hrel.two_inv
    cases h1; cases h2
    refine (hcl _ _ w).mono ?_
    rintro e w' ⟨rfl, rfl⟩
    exact ⟨_, ρ, rfl, Step.refl hR hw, .bool _⟩
  · cases hop

theorem strsOf_len : ∀ {es : List (List VV)} {ss : List ByteArray}, strsOf es = some ss → ss.length = es.length ∧ es.flatten = ss.map VV.str
  | [], ss, h => by simp only [strsOf, Option.some.injEq] at h; subst h; exact ⟨rfl, rfl⟩
  | e :: r, ss, h => by
    unfold strsOf at h
    split at h
    · cases ‹_ :: _ = []›
    · rename_i s r' heq
      simp only [List.cons.injEq] at heq
      obtain ⟨rfl, rfl⟩ := heq
      simp only [Option.map_eq_some_iff] at h
      obtain ⟨ss', h1, rfl⟩ := h
      obtain ⟨h2, h3⟩ := strsOf_len h1
      exact ⟨by simp [h2], by simp [h3]⟩
    · cases h

theorem xJoin_sound {f : FuncId} (hnil : ∀ (a : Option Addr) (c : Nat) (sep : ByteArray) (w : World), Calls P f #[.slice a 0 c, .string sep] w fun e w' => e = .returned (.string ⟨#[]⟩) ∧ w' = w)
    (hcl : ∀ (bk o c : Nat) (xs : List ByteArray) (sep : ByteArray) (w : World), (∀ (j : Nat) x, xs[j]? = some x → w.cell? ⟨bk, o + j, none⟩ = some (.string x)) → bk < w.heap.size → xs.length ≤ maxBytes → xs.length ≤ c →
      (joinL (xs.map (·.data.toList)) sep.data.toList).length ≤ maxBytes → Calls P f #[.slice (some ⟨bk, o, none⟩) xs.length c, .string sep] w fun e w' => e = .returned (.string ⟨(joinL (xs.map (·.data.toList)) sep.data.toList).toArray⟩) ∧ Below w.heap.size w w')
    {args : List VV} {h h' : VHeap} {v : VV} (hop : xJoin args h = some (v, h')) : SoundF P f args h v h' := by
  intro ρ w margs hR hw hrel _hG
  unfold xJoin at hop
  split at hop
  · simp only [Option.some.injEq, Prod.mk.injEq] at hop
    obtain ⟨rfl, rfl⟩ := hop
    obtain ⟨ms, mt, rfl, h1, h2⟩ := hrel.two_inv
    cases h1; cases h2
    refine (hnil none 0 _ w).mono ?_
    rintro e w' ⟨rfl, rfl⟩
    exact ⟨_, ρ, rfl, Step.refl hR hw, .str _⟩
  · rename_i b i n c z sep
    split at hop
    · rename_i es he
      split at hop
      · rename_i ss hss
        split at hop
        · rename_i hc
          simp only [Option.some.injEq, Prod.mk.injEq] at hop
          obtain ⟨rfl, rfl⟩ := hop
          obtain ⟨ms, mt, rfl, h1, h2⟩ := hrel.two_inv
          cases h2
          obtain ⟨a, mcap, vs, rfl, e1, e2, e3, e4, e5⟩ := elems_slice w he h1 hR (fun _ _ _ h => h)
          obtain ⟨s1, s2⟩ := strsOf_len hss
          cases ss with
          | nil =>
            have hn : n = 0 := by rw [← e3, ← s1]; rfl
            subst hn
            refine (hnil (some a) mcap _ w).mono ?_
            rintro e w' ⟨rfl, rfl⟩
            exact ⟨_, ρ, rfl, Step.refl hR hw, .str _⟩
          | cons x0 r0 =>
            cases h1 with
            | slice _ _ _ _ _ l _ _ hb hz hn hm hcc ho ha =>
              have hn2 : n = (x0 :: r0).length := by rw [s1, e3]
              have ha2 : a = addrAt l i 0 := by
                rcases ha with ha | ⟨ha, _⟩
                · exact ha
                · rw [ha] at hn2; simp at hn2
              subst ha2
              have hcells : ∀ (j : Nat) x, (x0 :: r0)[j]? = some x → w.cell? ⟨l.mb, l.coff + i * l.esz + 0 + j, none⟩ = some (.string x) := by
                intro j x hj
                have hv : es.flatten[j]? = some (.str x) := by rw [s2, List.getElem?_map, hj]; rfl
                obtain ⟨m, hm1, hm2⟩ := e1.at hv
                cases hm2
                have := e5 j _ hm1
                rw [addrAt_add] at this
                unfold addrAt at this
                rw [Nat.zero_add] at this
                rw [Nat.add_zero]
                exact this
              subst hn2
              refine (hcl l.mb (l.coff + i * l.esz + 0) mcap (x0 :: r0) sep w hcells (hR.lt hb) hc.1 hn hc.2).mono ?_
              rintro e w' ⟨rfl, hB⟩
              exact ⟨_, ρ, rfl, step_quiet hR hw hB, .str _⟩
        · cases hop
      · cases hop
    · cases hop
  · cases hop
end

/-! Words on data. -/
def smallN (n : Int) : Bool := decide (0 ≤ n ∧ n < 100)
def digS (n : Int) : ByteArray := ⟨(digs n.toNat).toArray⟩
def preS (s p : ByteArray) : Bool := hasPre s.data.toList p.data.toList
def strRows (es : List (List D)) : List (List UInt8) := es.map fun r => (cell 0 r).toStr.data.toList
def joinS (es : List (List D)) (sep : ByteArray) : ByteArray := ⟨(joinL (strRows es) sep.data.toList).toArray⟩
def joinOK (es : List (List D)) (sep : ByteArray) : Bool := decide (es.length ≤ maxBytes ∧ (joinL (strRows es) sep.data.toList).length ≤ maxBytes)

def toldItoa : ToldF := fun _ args s K => match args, s with
  | [.int .i64 n], [] => cond (smallN n) (K (.str (digS n)) []) none
  | _, _ => none
def toldHasPrefix : ToldF := fun _ args s K => match args, s with
  | [.str x, .str p], [] => K (.bool (preS x p)) []
  | _, _ => none
def toldJoin : ToldF := fun _ args s K => match args with
  | [x, .str sep] => match usl x, urows s [.str] x with
    | true, some es => cond (joinOK es sep) (K (.str (joinS es sep)) s) none
    | _, _ => none
  | _ => none

section
variable {P : Program}

theorem itoa_tells {g : FuncId} (hX : seatX g = some xItoa) : Tells P g toldItoa := by
  intro R args st K r hu c h vargs hs hr
  unfold toldItoa at hu
  split at hu
  · rename_i n
    obtain ⟨q, hK⟩ := cond_some hu
    obtain ⟨v, rfl, hv⟩ := hr.inv1
    cases hv
    have q := of_decide_eq_true q
    exact VC.told hX (v := .str (digS n)) (h' := h) (by simp only [xItoa]; rw [if_pos q]; rfl) ⟨_, _, c, hs, .str _, Later.refl _ _ _, hK⟩
  · cases hu

theorem hasPrefix_tells {g : FuncId} (hX : seatX g = some xHasPrefix) : Tells P g toldHasPrefix := by
  intro R args st K r hu c h vargs hs hr
  unfold toldHasPrefix at hu
  split at hu
  · rename_i x p
    obtain ⟨v, w, rfl, hv, hw⟩ := hr.inv2
    cases hv; cases hw
    exact VC.told hX (v := .bool (preS x p)) (h' := h) rfl ⟨_, _, c, hs, .bool _, Later.refl _ _ _, hu⟩
  · cases hu

theorem strsOf_seg {g : VG} {K : Nat → Prop} : ∀ {es : List (List D)} {xs : List (List VV)}, xs.length = es.length → Seg g K [.str] es xs 0 → ∃ ss, strsOf xs = some ss ∧ ss.map (·.data.toList) = strRows es
  | [], [], _, _ => ⟨[], rfl, rfl⟩
  | e :: es, x :: xs, hl, hs => by
    have h0 := hs.at_ 0 e x rfl rfl
    have hx : ∃ s, x = [.str s] ∧ e = [.str s] := by
      have l1 := h0.len; have l2 := h0.lenv
      match e, x, l1, l2, h0 with
      | [d], [v], _, _, h0 =>
        have := h0.head
        cases this
        exact ⟨_, rfl, rfl⟩
    obtain ⟨s, rfl, rfl⟩ := hx
    have hs2 : Seg g K [.str] es xs 0 := ⟨by simp at hl; omega, fun j r cs h1 h2 => hs.at_ (j + 1) r cs (by simpa using h1) (by rw [Nat.zero_add] at h2 ⊢; simpa using h2)⟩
    obtain ⟨ss, h1, h2⟩ := strsOf_seg (by simpa using hl) hs2
    refine ⟨s :: ss, by simp [strsOf, h1], ?_⟩
    rw [List.map_cons, h2]; rfl
  | [], _ :: _, hl, _ => by simp at hl
  | _ :: _, [], hl, _ => by simp at hl

theorem join_tells {g : FuncId} (hX : seatX g = some xJoin) : Tells P g toldJoin := by
  intro R args st K r hu c h vargs hs hr
  unfold toldJoin at hu
  split at hu
  · rename_i x sep
    split at hu
    · rename_i es hsl hes
      obtain ⟨q, hK⟩ := cond_some hu
      obtain ⟨v, w, rfl, hv, hw⟩ := hr.inv2
      cases hw
      have q := of_decide_eq_true q
      obtain ⟨xs, g1, g2, g3⟩ := urows_rel hs (by simp) hes hv
      have g1 : elemsOf 1 h v = some xs := g1
      obtain ⟨ss, g4, g5⟩ := strsOf_seg g2 g3
      have hn : ss.length = es.length := by
        have := congrArg List.length g5
        simpa [strRows] using this
      have hop : xJoin [v, .str sep] h = some (.str (joinS es sep), h) := by
        have hc : (∃ b i n cp z, v = .slice b i n cp z) ∨ v = .nilslice := by
          cases hv with
          | nilslice => exact .inr rfl
          | own o v ho hb hv =>
            rcases hv with rfl | hv
            · exact .inr rfl
            · exact .inl hv
          | fz _ _ _ _ hrd _ =>
            cases hrd with
            | row0 => exact .inr rfl
            | row => exact .inl ⟨_, _, _, _, _, rfl⟩
          | nn _ _ _ hrd hv => exact .inl hv
          | _ => cases hsl
        rcases hc with ⟨b, i, n, cp, z, rfl⟩ | rfl
        · simp only [xJoin, g1, g4]
          rw [if_pos ⟨by rw [hn]; exact q.1, by rw [g5]; exact q.2⟩, g5]
          rfl
        · simp only [elemsOf, Option.some.injEq] at g1
          subst g1
          cases es with
          | nil => rfl
          | cons => simp at g2
      exact VC.told hX hop ⟨_, _, c, hs, .str _, Later.refl _ _ _, hK⟩
    · cases hu
  · cases hu
end

end Go.Proofs.YtbeiflhnogedeaaDoor.V

/- U: tables as text, keys that are numbers, pieces cut out of rows. -/
namespace Go.Proofs.YtbeiflhnogedeaaDoor.V

/-! Words on data. -/
def delAt (es : List (List D)) (lo hi : Nat) : List (List D) := es.take lo ++ es.drop hi
def delOK (es : List (List D)) (lo hi : Int) : Bool := decide (0 ≤ lo ∧ lo < hi) && upTo hi es.length
def numsD (es : List (List D)) : List Nat := es.map fun r => (cell 0 r).toInt.toNat
def smallRows (es : List (List D)) : Bool := decide (1 ≤ es.length ∧ es.length ≤ 100) && es.all fun r => smallN (cell 0 r).toInt
def lineD (k : D) (ds : List D) : List UInt8 := rowL (k.toInt.toNat :: (cell 0 ds).toInt.toNat :: (if (cell 2 ds).toBool then 1 else 0) :: numsD (cell 1 ds).toRows) ++ [10]
def linesD (es : List (D × List D)) : List D → List UInt8
  | [] => []
  | k :: ks => lineD k (mget es k []) ++ linesD es ks
def textD (es : List (D × List D)) : ByteArray := ⟨(linesD es (sortK keyLeD (es.map (·.1)))).toArray⟩
def textOK (es : List (D × List D)) : Bool := decide (es.length ≤ 100) && es.all fun p => smallN p.1.toInt && smallN (cell 0 p.2).toInt && smallRows (cell 1 p.2).toRows

def toldDelete : ToldF := fun _ args s K => match args, s with
  | [.own 0, .int .i64 lo, .int .i64 hi], [.row fts es] => match FT.sames fts [.int .i64] with
    | true => cond (delOK es lo hi) (K (.own 1) [.gone, .row fts (delAt es lo.toNat hi.toNat)]) none
    | false => none
  | _, _ => none
def toldText : ToldF := fun _ args s K => match args, s with
  | [.ptr 0 0], [.obj [.map 1], .map (.int .i64) true fts es] => match FT.sames fts [.int .i64, .row 8 [.int .i64], .bool] with
    | true => cond (textOK es) (K (.str (textD es)) [.obj [.map 1], .map (.int .i64) true fts es]) none
    | false => none
  | _, _ => none
def toldKeysI : ToldF := fun _ args s K => match args, s with
  | [.ptr 0 0], [.obj [.map 1], .map (.int .i64) ag fts es] => cond (keysOKI es) (K (.own 2) [.obj [.map 1], .map (.int .i64) ag fts es, .row [.int .i64] (keysD es)]) none
  | _, _ => none

section
variable {P : Program} {c : Cx} {h : VHeap} {s : USt}

/-- The map in a variable's only cell. -/
theorem map_cell0 (hs : RSt c h s) {kf : FT} {ag : Bool} {fts : List FT} {es : List (D × List D)} (h0 : s.get 0 = .obj [.map 1]) (h1 : s.get 1 = .map kf ag fts es) {v : VV} (hv : RV c h.get (.ptr 0 0) v) :
    ∃ b m ves, v = .ptr b 0 0 ∧ rd h b 0 (0 + 0) 1 = some [.map m] ∧ h.get m = some (.map ves) ∧ isKey kf = true ∧ MRel h.get c.K kf ag fts es ves := by
  obtain ⟨m, ves, hρ1, _, hg, hk, hm⟩ := map_obj hs h1
  cases hv with
  | ptr _ _ b ho hb =>
    have hro := hs.obj 0
    rw [h0, hb] at hro
    generalize c.φ 0 = fm at hro
    cases hro with
    | obj cs _ k xs hgb hes hz hro hso hx hr =>
      have hl := hr.1
      match xs, hl, hr with
      | [d], _, hr =>
        have hd := hr.head
        have : d = .map m := by
          cases hd with
          | map _ b' _ hb' => rw [hρ1] at hb'; exact hb'.symm ▸ rfl
        subst this
        exact ⟨b, m, ves, rfl, by simp [rd, hgb, hes], hg, hk, hm⟩

theorem keysI_rel {g : VG} {K : Nat → Prop} {ag : Bool} {fts : List FT} : ∀ {es : List (D × List D)} {ves : List (VV × VV)}, MRel g K (.int .i64) ag fts es ves → allKeys intKeyD es = true → ves.map (·.1) = (es.map (·.1)).map dV ∧ (ves.map (·.1)).all isIntV = true ∧ ∀ p ∈ es, ∃ x, p.1 = .int x
  | [], ves, h, _ => by rw [h.inv0]; simp
  | (k, ds) :: es, ves, h, hk => by
    obtain ⟨x, v, xs, ves', rfl, h1, _, _, h4⟩ := h.inv
    simp only [allKeys, Bool.and_eq_true] at hk
    obtain ⟨e1, e2, e3⟩ := keysI_rel h4 hk.2
    cases h1 with
    | int _ n0 =>
      have hk1 : decide (-9223372036854775808 ≤ n0 ∧ n0 ≤ 9223372036854775807) = true := hk.1
      refine ⟨by simp only [List.map_cons, e1]; rfl, ?_, fun p hp => ?_⟩
      · simp only [List.map_cons, List.all_cons, e2, Bool.and_true, isIntV]; exact hk1
      · rcases List.mem_cons.1 hp with rfl | hp
        · exact ⟨_, rfl⟩
        · exact e3 p hp

theorem keysI_tells {g : FuncId} (hX : seatX g = some (xKeys 0 isIntV)) : Tells P g toldKeysI := by
  intro R args st K r hu c h vargs hs hr
  unfold toldKeysI at hu
  split at hu
  · rename_i ag fts es
    obtain ⟨q, hK⟩ := cond_some hu
    unfold keysOKI at q
    simp only [Bool.and_eq_true, decide_eq_true_eq] at q
    obtain ⟨v, rfl, hv⟩ := hr.inv1
    obtain ⟨b, m, ves, rfl, hrd, hg, _, hm⟩ := map_cell0 hs (kf := .int .i64) (ag := ag) (fts := fts) (es := es) rfl rfl hv
    obtain ⟨e1, e2, e3⟩ := keysI_rel hm q.1
    have hlen : ves.length * 16 ≤ maxBytes := by rw [hm.len]; exact q.2
    have hsort : sortK keyLe (ves.map (·.1)) = (sortK keyLeD (es.map (·.1))).map dV := by rw [e1]; exact sortK_map dV keyLeD keyLe keyLe_dV _
    have hmem : ∀ k ∈ sortK keyLeD (es.map (·.1)), ∃ x, k = D.int x := by
      intro k hk
      have := (perm_sortK keyLeD (es.map (·.1))).mem_iff.1 hk
      obtain ⟨p, hp, rfl⟩ := List.mem_map.1 this
      exact e3 p hp
    have hkd : keysD es = (sortK keyLeD (es.map (·.1))).map fun k => [k] := rfl
    generalize hq : sortK keyLeD (es.map (·.1)) = ks at hsort hmem hkd
    cases ks with
    | nil =>
      refine VC.told hX (v := .nilslice) (h' := h) ?_ ?_
      · simp only [xKeys, hrd, hg, e2, hlen, decide_true, Bool.and_self, hsort, List.map_nil]
      · obtain ⟨a1, a2, a3⟩ := addNil hs [.int .i64] c.fams
        refine ⟨_, _, _, a1, a3, a2, ?_⟩
        rw [hkd] at hK
        exact hK
    | cons k0 ks =>
      have hseg : Seg h.get c.K [.int .i64] ((k0 :: ks).map fun k => [k]) (((k0 :: ks).map dV).map fun x => [x]) 0 := by
        refine ⟨by simp, fun j r cs h1 h2 => ?_⟩
        rw [Nat.zero_add] at h2
        rw [List.getElem?_map] at h1 h2
        rw [List.getElem?_map] at h2
        cases hkj : (k0 :: ks)[j]? with
        | none => rw [hkj] at h1; cases h1
        | some k =>
          rw [hkj] at h1 h2
          simp only [Option.map_some, Option.some.injEq] at h1 h2
          subst h1; subst h2
          obtain ⟨x, rfl⟩ := hmem k (List.mem_of_getElem? hkj)
          exact RDL.cons (.int .i64 x) (RDL.nil _ _)
      obtain ⟨c1, s1, v1, l1⟩ := new_row (T := c.fams) hs (fts := [.int .i64]) (by decide) (es := (k0 :: ks).map fun k => [k]) (xs := ((k0 :: ks).map dV).map fun x => [x]) (n := (k0 :: ks).length) (z := 1) (cp := none) rfl (by simp) (fun q hq => by cases hq) hseg
      refine VC.told hX (v := .slice h.next 0 (k0 :: ks).length none 1) (h' := fresh h (((k0 :: ks).map dV).map fun x => [x]) 1) ?_ ?_
      · simp only [xKeys, hrd, hg, e2, hlen, decide_true, Bool.and_self, hsort, List.map_cons]
        simp
      · refine ⟨_, _, c1, s1, v1, l1, ?_⟩
        rw [hkd] at hK
        exact hK
  · cases hu

theorem smallV_of {n : Int} (h : smallN n = true) : smallV (.int .i64 n) = some n.toNat := by
  have := of_decide_eq_true h
  simp only [smallV]; rw [if_pos this]

theorem smalls_seg {g : VG} {K : Nat → Prop} : ∀ {es : List (List D)} {xs : List (List VV)}, xs.length = es.length → Seg g K [.int .i64] es xs 0 → es.all (fun r => smallN (cell 0 r).toInt) = true → smallsV xs = some (numsD es)
  | [], [], _, _, _ => rfl
  | e :: es, x :: xs, hl, hs, hq => by
    have h0 := hs.at_ 0 e x rfl rfl
    have hx : ∃ n, x = [.int .i64 n] ∧ e = [.int n] := by
      have l1 := h0.len; have l2 := h0.lenv
      match e, x, l1, l2, h0 with
      | [d], [v], _, _, h0 =>
        have := h0.head
        cases this
        exact ⟨_, rfl, rfl⟩
    obtain ⟨n, rfl, rfl⟩ := hx
    simp only [List.all_cons, Bool.and_eq_true] at hq
    have hs2 : Seg g K [.int .i64] es xs 0 := ⟨by simp at hl; omega, fun j r cs h1 h2 => hs.at_ (j + 1) r cs (by simpa using h1) (by rw [Nat.zero_add] at h2 ⊢; simpa using h2)⟩
    have ih := smalls_seg (by simpa using hl) hs2 hq.2
    have h1 : smallV (.int .i64 n) = some n.toNat := smallV_of hq.1
    simp only [smallsV, h1, ih]
    rfl
  | [], _ :: _, hl, _, _ => by simp at hl
  | _ :: _, [], hl, _, _ => by simp at hl

theorem line_rel {K : Nat → Prop} {k : D} {x : VV} {ds : List D} {xs : List VV} (hk : RD h.get K (.int .i64) k x) (hd : RDL h.get K [.int .i64, .row 8 [.int .i64], .bool] ds xs)
    (h1 : smallN k.toInt = true) (h2 : smallN (cell 0 ds).toInt = true) (h3 : smallRows (cell 1 ds).toRows = true) : lineV h x (.agg xs) = some (lineD k ds) := by
  have l1 := hd.len; have l2 := hd.lenv
  match ds, xs, l1, l2, hd with
  | [d0, d1, d2], [v0, v1, v2], _, _, hd =>
    have a0 := hd.head
    have a1 := hd.tail.head
    have a2 := hd.tail.tail.head
    cases hk with
    | int _ n =>
    cases a0 with
    | int _ m =>
    cases a2 with
    | bool bb =>
    have e1 : smallV (.int .i64 n) = some n.toNat := smallV_of h1
    have e2 : smallV (.int .i64 m) = some m.toNat := smallV_of h2
    unfold smallRows at h3
    simp only [Bool.and_eq_true, decide_eq_true_eq] at h3
    have h3a : (d1.toRows).length ≤ 100 := h3.1.2
    have h3c : 1 ≤ (d1.toRows).length := h3.1.1
    have h3b : (d1.toRows).all (fun r => smallN (cell 0 r).toInt) = true := h3.2
    have e3 : (rowsV h v1).bind smallsV = some (numsD d1.toRows) := by
      cases a1 with
      | nil => exact absurd h3c (by show ¬ (1 ≤ 0); omega)
      | row0 => exact absurd h3c (by show ¬ (1 ≤ 0); omega)
      | row _ _ rows b i n c z k hg hK hz hz' h0 hn hlen hc hl hr =>
        have hz1 : z = 1 := hz'
        have hn0 : Nat.beq n 0 = false := by
          have h3c : 1 ≤ rows.length := h3c
          cases hb : Nat.beq n 0 with
          | false => rfl
          | true => have := Nat.eq_of_beq_eq_true hb; omega
        have : elemsOf 1 h (.slice b i n c z) = some ((k.es.drop i).take n) := by
          simp only [elemsOf, hg]; rw [if_pos ⟨hz1, hlen⟩]
        show ((match Nat.beq n 0 with | true => none | false => elemsOf 1 h (.slice b i n c z)) : Option _).bind smallsV = _
        rw [hn0, this]
        have hseg : Seg h.get K [.int .i64] rows k.es i := ⟨by omega, fun j r cs q1 q2 => ⟨(hl j r cs q1 q2).1, (hl j r cs q1 q2).2, hr j r cs q1 q2⟩⟩
        obtain ⟨c1, c2⟩ := hseg.cut hn
        exact smalls_seg c2 c1 h3b
    simp only [lineV, e1, e2, e3]
    have e4 : (numsD d1.toRows).length ≤ 100 := by unfold numsD; rw [List.length_map]; exact h3a
    rw [if_pos e4]
    rfl

theorem lines_rel {K : Nat → Prop} {es : List (D × List D)} {ves : List (VV × VV)} (hm : MRel h.get K (.int .i64) true [.int .i64, .row 8 [.int .i64], .bool] es ves) (hok : ∀ p ∈ es, smallN p.1.toInt = true ∧ smallN (cell 0 p.2).toInt = true ∧ smallRows (cell 1 p.2).toRows = true) :
    ∀ (ks : List D), (∀ k ∈ ks, k ∈ es.map (·.1)) → (∀ k ∈ ks, ∃ n, k = D.int n) → linesV h ves (ks.map dV) = some (linesD es ks)
  | [], _, _ => rfl
  | k :: ks, h1, h2 => by
    have ih := lines_rel hm hok ks (fun k hk => h1 k (List.mem_cons_of_mem _ hk)) (fun k hk => h2 k (List.mem_cons_of_mem _ hk))
    obtain ⟨n, rfl⟩ := h2 k List.mem_cons_self
    have hkey : RD h.get K (.int .i64) (.int n) (dV (.int n)) := .int .i64 n
    have hin : ∃ p ∈ es, p.1 = D.int n ∧ mget es (.int n) [] = p.2 := by
      have hmem := h1 _ List.mem_cons_self
      clear ih h1 h2 hok hm
      induction es with
      | nil => simp at hmem
      | cons p r ihh =>
        obtain ⟨a, w⟩ := p
        by_cases he : a = .int n
        · subst he
          exact ⟨_, List.mem_cons_self, rfl, by simp [mget, D.eqKey]⟩
        · simp only [List.map_cons, List.mem_cons] at hmem
          rcases hmem with hmem | hmem
          · exact absurd hmem.symm he
          · obtain ⟨p, hp, e1, e2⟩ := ihh hmem
            refine ⟨p, List.mem_cons_of_mem _ hp, e1, ?_⟩
            have hb : D.eqKey (.int n) a = false := by
              cases a with
              | int m =>
                have : n ≠ m := fun e => he (by rw [e])
                simp [D.eqKey, this]
              | _ => rfl
            simp only [mget, hb, cond_false]; exact e2
    obtain ⟨p, hp, e1, e2⟩ := hin
    rcases find_rel (kf := .int .i64) rfl hkey hm with ⟨_, q2, q3⟩ | ⟨v, xs, ds, q1, q2, q3, q4, q5⟩
    · exfalso
      have hh : mhas es (.int n) = true := by
        have hmem := h1 _ List.mem_cons_self
        clear ih h1 h2 hok hm q2 q3 e2
        induction es with
        | nil => simp at hmem
        | cons p r ihh =>
          obtain ⟨a, w⟩ := p
          by_cases he : D.eqKey (.int n) a = true
          · simp [mhas, he]
          · simp only [List.map_cons, List.mem_cons] at hmem
            rcases hmem with hmem | hmem
            · exact absurd (by rw [← hmem]; simp [D.eqKey]) he
            · rw [Bool.not_eq_true] at he
              simp only [mhas, he, cond_false]
              by_cases hpr : p ∈ r
              · exact ihh hpr hmem
              · clear hpr hp e1
                clear ihh
                induction r with
                | nil => simp at hmem
                | cons p2 r2 ih2 =>
                  obtain ⟨a2, w2⟩ := p2
                  by_cases he2 : D.eqKey (.int n) a2 = true
                  · simp [mhas, he2]
                  · simp only [List.map_cons, List.mem_cons] at hmem
                    rcases hmem with hmem | hmem
                    · exact absurd (by rw [← hmem]; simp [D.eqKey]) he2
                    · rw [Bool.not_eq_true] at he2
                      simp only [mhas, he2, cond_false]; exact ih2 hmem
      rw [hh] at q2; cases q2
    · have hv : v = .agg xs := q4
      subst hv
      have hds : ds = p.2 := by rw [← q3 [], e2]
      subst hds
      obtain ⟨o1, o2, o3⟩ := hok p hp
      rw [e1] at o1
      have hl := line_rel (h := h) hkey q5 o1 o2 o3
      have q1 : findMap (dV (.int n)) ves = some (some (.agg xs)) := q1
      simp only [List.map_cons, linesV, q1, hl, ih]
      simp only [linesD, e2]

theorem text_tells {g : FuncId} (hX : seatX g = some (xText 0)) : Tells P g toldText := by
  intro R args st K r hu c h vargs hs hr
  unfold toldText at hu
  split at hu
  · rename_i fts es
    split at hu
    · rename_i hft
      have hft := FT.sames_eq _ _ hft
      subst hft
      obtain ⟨q, hK⟩ := cond_some hu
      unfold textOK at q
      simp only [Bool.and_eq_true, decide_eq_true_eq] at q
      obtain ⟨v, rfl, hv⟩ := hr.inv1
      obtain ⟨b, m, ves, rfl, hrd, hg, _, hm⟩ := map_cell0 hs (kf := .int .i64) (ag := true) (fts := [.int .i64, .row 8 [.int .i64], .bool]) (es := es) rfl rfl hv
      have hok : ∀ p ∈ es, smallN p.1.toInt = true ∧ smallN (cell 0 p.2).toInt = true ∧ smallRows (cell 1 p.2).toRows = true := by
        intro p hp
        have := List.all_eq_true.1 q.2 p hp
        simp only [Bool.and_eq_true] at this
        exact ⟨this.1.1, this.1.2, this.2⟩
      have hkey : allKeys intKeyD es = true := by
        have : ∀ {es : List (D × List D)} {ves : List (VV × VV)}, MRel h.get c.K (.int .i64) true [.int .i64, .row 8 [.int .i64], .bool] es ves → (∀ p ∈ es, smallN p.1.toInt = true) → allKeys intKeyD es = true := by
          intro es
          induction es with
          | nil => intro ves _ _; rfl
          | cons p r ih =>
            intro ves hm hs
            obtain ⟨k, ds⟩ := p
            obtain ⟨x, v, xs, ves', rfl, h1, _, _, h4⟩ := hm.inv
            have hk := of_decide_eq_true (hs _ List.mem_cons_self)
            cases h1
            rename_i n
            have hk : 0 ≤ n ∧ n < 100 := hk
            simp only [allKeys, ih h4 (fun p hp => hs p (List.mem_cons_of_mem _ hp)), Bool.and_true]
            show decide _ = true
            rw [decide_eq_true_eq]; omega
        exact this hm (fun p hp => (hok p hp).1)
      obtain ⟨e1, e2, e3⟩ := keysI_rel hm hkey
      have hsort : sortK keyLe (ves.map (·.1)) = (sortK keyLeD (es.map (·.1))).map dV := by rw [e1]; exact sortK_map dV keyLeD keyLe keyLe_dV _
      have hmemp : ∀ k ∈ sortK keyLeD (es.map (·.1)), k ∈ es.map (·.1) := fun k hk => (perm_sortK keyLeD (es.map (·.1))).mem_iff.1 hk
      have hl := lines_rel hm hok (sortK keyLeD (es.map (·.1))) hmemp (fun k hk => by
        obtain ⟨p, hp, rfl⟩ := List.mem_map.1 (hmemp k hk)
        exact e3 p hp)
      have hn : ves.length ≤ 100 := by rw [hm.len]; exact q.1
      refine VC.told hX (v := .str (textD es)) (h' := h) ?_ ?_
      · simp only [xText, hrd, hg, e2, hn, decide_true, Bool.and_self, hsort, hl]; rfl
      · exact ⟨_, _, c, hs, .str _, Later.refl _ _ _, hK⟩
    · cases hu
  · cases hu

theorem ints_seg {g : VG} {K : Nat → Prop} : ∀ {es : List (List D)} {xs : List (List VV)}, xs.length = es.length → Seg g K [.int .i64] es xs 0 → xs.all isInt1 = true
  | [], [], _, _ => rfl
  | e :: es, x :: xs, hl, hs => by
    have h0 := hs.at_ 0 e x rfl rfl
    have hx : ∃ n, x = [.int .i64 n] := by
      have l1 := h0.len; have l2 := h0.lenv
      match e, x, l1, l2, h0 with
      | [d], [v], _, _, h0 =>
        have := h0.head
        cases this
        exact ⟨_, rfl⟩
    obtain ⟨n, rfl⟩ := hx
    have hs2 : Seg g K [.int .i64] es xs 0 := ⟨by simp at hl; omega, fun j r cs h1 h2 => hs.at_ (j + 1) r cs (by simpa using h1) (by rw [Nat.zero_add] at h2 ⊢; simpa using h2)⟩
    simp only [List.all_cons, ints_seg (by simpa using hl) hs2, Bool.and_true]; rfl
  | [], _ :: _, hl, _ => by simp at hl
  | _ :: _, [], hl, _ => by simp at hl

theorem delete_tells {g : FuncId} (hX : seatX g = some xDelete) : Tells P g toldDelete := by
  intro R args st K r hu c h vargs hs hr
  unfold toldDelete at hu
  split at hu
  · rename_i lo hi fts es
    split at hu
    · rename_i hft
      have hft := FT.sames_eq _ _ hft
      subst hft
      obtain ⟨q, hK⟩ := cond_some hu
      unfold delOK upTo at q
      simp only [Bool.and_eq_true, decide_eq_true_eq] at q
      obtain ⟨v, v1, v2, rfl, hv, hv1, hv2⟩ : ∃ v v1 v2, vargs = [v, v1, v2] ∧ RV c h.get (.own 0) v ∧ RV c h.get (.int .i64 lo) v1 ∧ RV c h.get (.int .i64 hi) v2 := by
        have hl := hr.1
        match vargs, hl, hr with
        | [v, v1, v2], _, hr => exact ⟨v, v1, v2, rfl, hr.head, hr.tail.head, hr.tail.tail.head⟩
      cases hv1; cases hv2
      cases hv with
      | own _ v ho hb hv =>
      have hnp : ∀ b i f, c.ρ 0 ≠ .ptr b i f := by
        intro b i f e; rw [hb] at e; subst e
        rcases hv with e | ⟨_, _, _, _, _, e⟩ <;> cases e
      have hro := hs.obj 0
      rw [show (USt.get [UO.row [FT.int .i64] es] 0) = .row [.int .i64] es from rfl, hb] at hro
      generalize hfm : c.φ 0 = fm at hro
      cases hro with
      | rowNil => simp at q; omega
      | rowCut => simp at q; omega
      | row _ _ b i n cp z k hg hro hz hz' h0' hn hcp hsg =>
        have hlen := hsg.len
        have hz1 : z = 1 := hz'
        subst hz1
        obtain ⟨hcut, hcutl⟩ := hsg.cut hn
        have hint := ints_seg hcutl hcut
        generalize hxs : ((k.es.drop i).take n).take lo.toNat ++ ((k.es.drop i).take n).drop hi.toNat ++ List.replicate (hi.toNat - lo.toNat) [VV.int .i64 0] = xs
        have hxl : xs.length = n := by rw [← hxs]; simp; omega
        have hle : (k.es.take i ++ xs ++ k.es.drop (i + xs.length)).length = k.es.length := by simp; omega
        obtain ⟨t1, t2, t3⟩ := turned hs.wf hg (k.org + i) (k.es.take i ++ xs ++ k.es.drop (i + xs.length)) hle
        have hop : xDelete [.slice b i n cp 1, .int .i64 lo, .int .i64 hi] h = some (.slice b i (n - (hi.toNat - lo.toNat)) cp 1, (match k.solo with | true => h | false => h.kill k.fam (k.org + i)).put b (.cells { k with es := k.es.take i ++ xs ++ k.es.drop (i + xs.length) })) := by
          simp only [xDelete, hg]
          rw [if_pos ⟨q.1.1, q.1.2, by omega, by omega, hz, hint⟩, hxs]
          unfold overwrite
          simp only [hg]
          rw [if_neg (by rw [hro]; simp; omega)]
          rfl
        have hdl : (delAt es lo.toNat hi.toNat).length = n - (hi.toNat - lo.toNat) := by unfold delAt; simp; omega
        obtain ⟨m1, m2⟩ := hs.moved (o := 0) (u := .row [.int .i64] (delAt es lo.toNat hi.toNat)) (v := .slice b i (n - (hi.toNat - lo.toNat)) cp 1) (fm := some k.fam) hnp t3 (fun f e => by rw [e]; exact hfm) t2 (fun f e => by cases e; exact .inl hfm) (by
          have hL2 := Later.dropAdd hs 0 (.slice b i (n - (hi.toNat - lo.toNat)) cp 1) (some k.fam) t3 (fun f e => by cases e; exact .inl hfm)
          have hk := hL2.keeps (fun f' hK' e => hs.ndK 0 _ hfm (by rw [e] at hK'; exact hK'))
          refine .row [.int .i64] _ b i _ cp 1 { k with es := k.es.take i ++ xs ++ k.es.drop (i + xs.length) } t1 hro hz hz' h0' hdl.symm (fun q e => ⟨by have := (hcp q e).1; omega, by rw [hle]; exact (hcp q e).2⟩) ?_
          have hsk := hsg.keep hk
          refine ⟨by rw [hdl]; show _ ≤ (k.es.take i ++ xs ++ k.es.drop (i + xs.length)).length; rw [hle]; omega, fun j r cs h1 h2 => ?_⟩
          have hj : j < n - (hi.toNat - lo.toNat) := by rw [← hdl]; exact (List.getElem?_eq_some_iff.1 h1).1
          have hti : (k.es.take i).length = i := by simp; omega
          have h2 : (k.es.take i ++ xs ++ k.es.drop (i + xs.length))[i + j]? = some cs := h2
          rw [List.append_assoc, List.getElem?_append_right (by omega), hti, List.getElem?_append_left (by omega), show i + j - i = j by omega, ← hxs] at h2
          unfold delAt at h1
          by_cases hlo : j < lo.toNat
          · rw [List.getElem?_append_left (by simp; omega), List.getElem?_take, if_pos hlo] at h1
            rw [List.append_assoc, List.getElem?_append_left (by simp; omega), List.getElem?_take, if_pos hlo, List.getElem?_take, if_pos (by omega), List.getElem?_drop] at h2
            exact hsk.at_ j r cs h1 h2
          · have e1 : (es.take lo.toNat).length = lo.toNat := by simp; omega
            have e2 : (((k.es.drop i).take n).take lo.toNat).length = lo.toNat := by simp; omega
            rw [List.getElem?_append_right (by omega), e1, List.getElem?_drop] at h1
            rw [List.append_assoc, List.getElem?_append_right (by omega), e2, List.getElem?_append_left (by simp; omega), List.getElem?_drop, List.getElem?_take, if_pos (by omega), List.getElem?_drop] at h2
            exact hsk.at_ _ r cs h1 h2)
        have hnc : c.n = 1 := by rw [← hs.len]; rfl
        refine VC.told hX hop ?_
        refine ⟨_, _, _, m1, .own 1 _ ?_ ?_ (.inr ⟨_, _, _, _, _, rfl⟩), m2.mono (fun f e => ⟨0, by rw [e]; exact hfm⟩), hK⟩
        · show 1 < c.n + 1; omega
        · show (if 1 = c.n then _ else _) = _
          rw [if_pos hnc.symm]
    · cases hu
  · cases hu
end
end Go.Proofs.YtbeiflhnogedeaaDoor.V

/- U: the number that an error wraps. -/
namespace Go.Proofs.YtbeiflhnogedeaaDoor.V

/-- What stands behind an interface. -/
def innD : D → D
  | .row [[_, d]] => d
  | _ => .nil
/-- The number that an error wraps: an interface, of a pointer to a place and an interface of a number. -/
def codeD (d : D) : Int := match d with
  | .row [[_, .row [[_, .row [[_, .int n]]]]]] => n
  | _ => 0
def codeOK (tE tN : Nat) (d : D) : Bool := match d with
  | .nil => true
  | .row [[.int t, .row [[_, .row [[.int u, .int _]]]]]] => decide (t = (tE : Int)) && decide (u = (tN : Int))
  | _ => false
def errFT (tE tN : Nat) : List FT := [.ptr [.int .i64, .ifc [tN] [.int .i64]]]
def toldCode (tE tN : Nat) : ToldF := fun _ args s K => match args, s with
  | [.niliface], [] => K (.int .i64 0) []
  | [.ifz ts fts d], [] => match natsEq ts [tE], FT.sames fts (errFT tE tN) with
    | true, true => cond (codeOK tE tN d) (K (.int .i64 (codeD d)) []) none
    | _, _ => none
  | _, _ => none

section
variable {P : Program} {c : Cx} {h : VHeap} {s : USt}

theorem lookT_one {a t : Nat} {ft f : FT} (h : lookT [a] [ft] t = some f) : t = a ∧ f = ft := by
  simp only [lookT] at h
  split at h
  · rename_i hb
    cases h
    exact ⟨(Nat.eq_of_beq_eq_true hb).symm, rfl⟩
  · cases h

theorem code_tells {g : FuncId} {tE tN : Nat} (hX : seatX g = some (xCode tE tN)) : Tells P g (toldCode tE tN) := by
  intro R args st K r hu c h vargs hs hr
  unfold toldCode at hu
  split at hu
  · obtain ⟨v, rfl, hv⟩ := hr.inv1
    cases hv
    refine VC.told hX (v := .int .i64 0) (h' := h) rfl ?_
    exact ⟨_, _, c, hs, .int _ _, Later.refl _ _ _, hu⟩
  · rename_i ts fts d
    split at hu
    · rename_i hts hft
      have hts := natsEq_eq _ _ hts
      have hft := FT.sames_eq _ _ hft
      subst hts; subst hft
      obtain ⟨q, hK⟩ := cond_some hu
      obtain ⟨v, rfl, hv⟩ := hr.inv1
      cases hv with
      | ifz _ _ _ v hd =>
        cases hd with
        | inil =>
          refine VC.told hX (v := .int .i64 0) (h' := h) rfl ?_
          exact ⟨_, _, c, hs, .int _ _, Later.refl _ _ _, hK⟩
        | ifc _ _ t ft d v ht hd =>
          obtain ⟨rfl, rfl⟩ := lookT_one ht
          cases hd with
          | pnil => simp [codeOK] at q
          | ptr _ ds b k cs hg hKf hes hl hlv hr2 =>
            match ds, cs, hl, hlv, hr2 with
            | [d0, d1], [v0, v1], _, _, hr2 =>
              have h1 := hr2 1 _ _ _ rfl rfl rfl
              cases h1 with
              | inil => simp [codeOK] at q
              | ifc _ _ t2 ft2 d2 v2 ht2 hd2 =>
                obtain ⟨rfl, rfl⟩ := lookT_one ht2
                cases hd2 with
                | int _ n =>
                  refine VC.told hX (v := .int .i64 n) (h' := h) ?_ ?_
                  · have e1 : Nat.beq t t = true := Nat.beq_refl t
                    have e2 : Nat.beq t2 t2 = true := Nat.beq_refl t2
                    have e3 : rd h b 0 (0 + 1) 1 = some [.iface t2 (.int .i64 n)] := by simp [rd, hg, hes]
                    simp only [xCode, e1, e2, e3]
                  · exact ⟨_, _, c, hs, .int _ _, Later.refl _ _ _, hK⟩
    · cases hu
  · cases hu

end
end Go.Proofs.YtbeiflhnogedeaaDoor.V

/- The contracts of this seat, as a table. -/
namespace Go.Proofs.YtbeiflhnogedeaaDoor.V

noncomputable def tbX (fu : Nat) : FuncId → Option (Bool × ToldF) := fun f => match Nat.beq f 13 with
  | true => some (true, toldCode 39 36)
  | false => none

theorem tbX_sound (fu : Nat) : SoundF' Tryd.prog (tbX fu) := by
  intro f own told h
  unfold tbX at h
  split at h
  · rename_i hb
    cases h
    have := Nat.eq_of_beq_eq_true hb; subst this
    exact code_tells rfl
  · cases h

end Go.Proofs.YtbeiflhnogedeaaDoor.V

/- U: a word that the kernel does not look into. -/
namespace Go.Proofs.YtbeiflhnogedeaaDoor.V

universe u

/-- The same, shut: what is shut is opened by its law alone. -/
noncomputable def shut {α : Sort u} (a : α) : α := Classical.choose (⟨a, rfl⟩ : ∃ b, b = a)

theorem shut_eq {α : Sort u} (a : α) : shut a = a := Classical.choose_spec (⟨a, rfl⟩ : ∃ b, b = a)

end Go.Proofs.YtbeiflhnogedeaaDoor.V

