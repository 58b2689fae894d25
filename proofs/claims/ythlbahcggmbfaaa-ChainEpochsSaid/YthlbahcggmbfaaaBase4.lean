import Derived.Test.YthlbahcggmbfaaaBase3
import Derived.KernelRfl
import Derived.Lib.Bytealg
import Derived.Lib.IndexLaws
import Derived.Laws.AppendOwn
import Derived.Maps.Own
import Derived.Sort.KeysCollected
import Derived.Sort.Walk0
import Derived.Lib.SlKeysI
import Derived.Sort.Row
import Derived.Test.YthlbahcggmbfaaaChecked
import Derived.Shelf.SlGeneric
import Derived.Shelf.Slices.Delete
import Derived.WalkKit
set_option linter.unusedVariables false
set_option linter.unusedSimpArgs false

namespace Go.Proofs.Ythlbahcggmbfaaa.V
section
variable {P : Program} {R : Type} {c : Cx} {h h' : VHeap} {s : USt}
theorem repown1_rel {g : VG} {o n : Nat} {v0 : VV} {ps qs : List VV} (ho : c.ρ o = .tuple (v0 :: ps)) (hn : n < c.n) (hnn : c.ρ n = .tuple (v0 :: qs)) {u : UV} {v : VV} (hr : RV c g u v) : RV c g (repown1 o n u) v := by
 cases u <;> simp only [repown1] <;> (try exact hr)
 rename_i p
 split
 ·rename_i hb
  have := Nat.eq_of_beq_eq_true hb; subst this
  cases hr with
  | pown _ _ ps' hp hρ hv =>
   rw [ho] at hρ
   simp only [VV.tuple.injEq, List.cons.injEq] at hρ
   obtain ⟨rfl, _⟩ := hρ
   exact .pown n _ qs hn hnn hv
 ·exact hr
theorem repownL_len (o n : Nat) (us : List UV) : (repownL o n us).length = us.length := by
 induction us with
 | nil => rfl
 | cons u us ih => simp [repownL, ih]
theorem repownL_rel {g : VG} {o n : Nat} {v0 : VV} {ps qs : List VV} (ho : c.ρ o = .tuple (v0 :: ps)) (hn : n < c.n) (hnn : c.ρ n = .tuple (v0 :: qs)) : ∀ {us : List UV} {vs : List VV}, RVs c g us vs → RVs c g (repownL o n us) vs
 | [], vs, h => h
 | u :: us, vs, h => by
  have := h.1
  match vs, this, h with
  | v :: vs, _, h => exact RVs.cons (repown1_rel ho hn hnn h.head) (repownL_rel ho hn hnn h.tail)
theorem repown_get (o n : Nat) (s : USt) (p : Nat) : (s.repown o n).get p = (s.get p).repown o n := by
 induction s generalizing p with
 | nil => rfl
 | cons u s ih => cases p with
  | zero => rfl
  | succ p => simp only [USt.repown, USt.get, ih]
theorem repown_len (o n : Nat) (s : USt) : (s.repown o n).len = s.len := by
 induction s with
 | nil => rfl
 | cons u s ih => simp only [USt.repown, USt.len, ih]
theorem RSt.repown (hs : RSt c h s) {o n : Nat} {v0 : VV} {ps qs : List VV} (ho : c.ρ o = .tuple (v0 :: ps)) (hn : n < c.n) (hnn : c.ρ n = .tuple (v0 :: qs)) : RSt c h (s.repown o n) := by
 refine ⟨hs.wf, by rw [repown_len, hs.len], fun p => ?_, hs.dis, hs.ndK, hs.ltφ, hs.ltK, hs.und⟩
 rw [repown_get]
 have hro := hs.obj p
 generalize s.get p = u at hro ⊢
 generalize c.ρ p = v at hro ⊢
 generalize c.φ p = fm at hro ⊢
 cases hro with
 | obj cs b k xs hg hes hz hro hso hx hr => exact .obj _ b k xs hg hes (by rw [repownL_len]; exact hz) hro hso hx (repownL_rel ho hn hnn hr)
 | rowNil fts => exact .rowNil fts
 | rowCut fts b i z k hg hK hz hz' h0 hi => exact .rowCut fts b i z k hg hK hz hz' h0 hi
 | row fts es b i n cp z k hg hro hz hz' h0 hn hcp hs => exact .row fts es b i n cp z k hg hro hz hz' h0 hn hcp hs
 | old fts es v h => exact .old fts es v h
 | map kf ag fts es b ves hg hk hl h => exact .map kf ag fts es b ves hg hk hl h
 | poolNil fts => exact .poolNil fts
 | pool fts es x b i n cp z k ps fs hg hro hz hz' h0 hn hcp hin hc hff hE => exact .pool fts es x b i n cp z k ps fs hg hro hz hz' h0 hn hcp hin hc hff hE
 | lent v => exact .lent v
 | gone v hv => exact .gone v hv
theorem upoolPut_rel {T : Nat → Prop} (hs : RSt c h s) {t : TypeId} {p i : Nat} {x : UV} {a' x' : VV} {K : UV → USt → Option R} {r : R} (hu : upoolPut P t p i x s K = some r) (ha : RV c h.get (.pe p i) a') (hx : RV c h.get x x')
  (hT : ∀ f, c.φ p f → T f) : Res T c h K r ((vstore P t h a' x').map fun h' => (.undef, h')) := by
 unfold upoolPut at hu
 split at hu
 ·rename_i fts es o hct hp
  have hct := Nat.eq_of_beq_eq_true hct
  have hp := poolOf_some hp
  split at hu
  ·rename_i cs ho
   split at hu
   ·rename_i ds hd hno
    obtain ⟨c1, b, k, xs, s1, l1, n1, r1, p1, hρ, hφ, hg, hes, hesz, hro, hso, hone, hrd⟩ := obj_data hs ho hd hno
    have hp1 : (freeze s cs).get p = .pool fts es none := freeze_pool hp
    cases ha with
    | pe _ _ bm i0 n cp z ps hpn hρp hi =>
     cases hx with
     | ptr _ _ b' ho' hb' =>
      rw [hρ] at hb'; cases hb'
      rcases pool_obj s1 hp1 with ⟨e1, _⟩ | ⟨bm', i', n', cp', z', km, ps', fs, hρ2, hφ2, hg2, hro2, hesz2, hz2, h0, hn2, hcp2, hin2, hc2, hff2, hE2⟩
      ·rw [r1, hρp] at e1; cases e1
      ·rw [r1, hρp] at hρ2
       simp only [VV.tuple.injEq, List.cons.injEq, VV.slice.injEq] at hρ2
       obtain ⟨⟨rfl, rfl, rfl, rfl, rfl⟩, rfl⟩ := hρ2
       have hpo : p ≠ o := fun e => by subst e; rw [ho] at hp; cases hp
       have hol : o < c1.n := by rw [n1]; exact ho'
       have hpl : p < c1.n := by rw [n1]; exact hpn
       have hips : i < ps.length := by rw [hE2.len]; omega
       have hold := hc2 i _ (List.getElem?_eq_getElem hips)
       have hmain : c1.φ p km.fam := by rw [hφ2]; exact .inl rfl
       have hfam2 : ∀ j f, fs j = some f → c1.φ p f := fun j f hf => by rw [hφ2]; exact .inr ⟨j, hf⟩
       have hof : c1.φ o k.fam := isOne hφ
       have hkm : k.fam ≠ km.fam := fun e => hpo (s1.dis p o _ (by rw [e]; exact hmain) hof)
       obtain ⟨t1, t2, t3⟩ := turned hs.wf hg2 (km.org + (i0 + i)) (km.es.set (i0 + i) [.ptr b 0 0]) (by simp)
       have hvs : vstore P t h (.ptr bm (i0 + i) 0) (.ptr b 0 0) = some ((match km.solo with | true => h | false => h.kill km.fam (km.org + (i0 + i))).put bm (.cells { km with es := km.es.set (i0 + i) [.ptr b 0 0] })) := by
        simp only [vstore, vcells, hct]
        rw [if_pos ⟨rfl, rfl, by omega⟩]
        simp only [wr, hg2, hold, hro2]
        rw [if_pos (by simp)]
        cases km.solo <;> simp
       rw [hvs]
       have hlen2 : (((freeze s cs).upd p .gone).upd o .lent).len = (freeze s cs).len := by rw [USt.len_upd, USt.len_upd]
       obtain ⟨g1, g2⟩ := s1.gather (L := [p, o]) (fun q hq => by
         rcases List.mem_cons.1 hq with rfl | hq
         ·exact hpl
         ·rw [List.mem_singleton] at hq; subst hq; exact hol) (u := .pool fts (es.set i ds) none) (v := .tuple (.slice bm i0 n cp z :: ps.set i (.ptr b 0 0))) (fm := fun f => f = km.fam ∨ ∃ j, (fun j => if j = i then some k.fam else fs j) j = some f)
        (T := (· = km.fam)) t3 (fun f hf => ⟨p, by simp, by rw [hf]; exact hmain⟩) t2
        (fun f hf => by
         rcases hf with rfl | ⟨j, hj⟩
         ·exact .inl ⟨p, by simp, hmain⟩
         ·simp only at hj
          split at hj
          ·simp only [Option.some.injEq] at hj; subst hj; exact .inl ⟨o, by simp, hof⟩
          ·exact .inl ⟨p, by simp, hfam2 j f hj⟩)
        (s' := ((freeze s cs).upd p .gone).upd o .lent) hlen2
        (fun q hq => by
         simp only [List.mem_cons, List.not_mem_nil, or_false, not_or] at hq
         rw [USt.get_upd, if_neg (fun hh => hq.2 hh.1), USt.get_upd, if_neg (fun hh => hq.1 hh.1)])
        (fun q hq => by
         rcases List.mem_cons.1 hq with rfl | hq
         ·exact .inr ⟨by rw [USt.get_upd, if_neg (fun hh => hpo hh.1), USt.get_upd, if_pos ⟨rfl, by rw [s1.len]; exact hpl⟩], fun b i f e => by rw [r1, hρp] at e; cases e⟩
         ·rw [List.mem_singleton] at hq; subst hq
          exact .inl (by rw [USt.get_upd, if_pos ⟨rfl, by rw [USt.len_upd, s1.len]; exact hol⟩]))
        (fun hLat => by
         have hk := hLat.keeps (fun f' hK' e => by rw [e] at hK'; exact s1.ndK p _ hmain hK')
         refine .pool fts (es.set i ds) none bm i0 n cp z { km with es := km.es.set (i0 + i) [.ptr b 0 0] } (ps.set i (.ptr b 0 0)) _ t1 hro2 hesz2 hz2 h0 (by simp [hn2]) (fun q hq => ⟨(hcp2 q hq).1, by simp; exact (hcp2 q hq).2⟩) (by simp; exact hin2) (fun j pp hj => ?_) (fun j f hf => ?_) ?_
         ·simp only
          rw [List.getElem?_set] at hj ⊢
          by_cases hij : i = j
          ·subst hij
           rw [if_pos rfl, if_pos hips] at hj
           simp only [Option.some.injEq] at hj; subst hj
           rw [if_pos rfl, if_pos (by omega)]
          ·rw [if_neg hij] at hj
           rw [if_neg (by omega)]
           exact hc2 j pp hj
         ·simp only
          split at hf
          ·simp only [Option.some.injEq] at hf; subst hf; exact hkm
          ·exact hff2 j f hf
         ·refine (hE2.keep hk (fun j b2 k2 hj hb => t3.same b2 _ hb (fun e => hff2 j _ hj e))).set (fun j hj => by cases hj) (by omega) (t3.same b _ hg (fun e => hkm e)) hes hesz hro hso hone (hrd.keep hk) (fun j _ hj => ?_)
          exact hpo (s1.dis p o _ (hfam2 j _ hj) hof))
       have hfl : (freeze s cs).len = s.len := freeze_len _ _
       have hcn : s.len = c1.n := by rw [n1, hs.len]
       have hρ3 : ((c1.dropL [p, o]).add (.tuple (.slice bm i0 n cp z :: ps.set i (.ptr b 0 0))) (fun f => f = km.fam ∨ ∃ j, (fun j => if j = i then some k.fam else fs j) j = some f)).ρ s.len = .tuple (.slice bm i0 n cp z :: ps.set i (.ptr b 0 0)) := by
        show (if s.len = c1.n then _ else _) = _
        rw [if_pos hcn]
       have hρ4 : ((c1.dropL [p, o]).add (.tuple (.slice bm i0 n cp z :: ps.set i (.ptr b 0 0))) (fun f => f = km.fam ∨ ∃ j, (fun j => if j = i then some k.fam else fs j) j = some f)).ρ p = .tuple (.slice bm i0 n cp z :: ps) := by
        show (if p = c1.n then _ else c1.ρ p) = _
        rw [if_neg (by omega), r1]; exact hρp
       have g3 := g1.repown hρ4 (n := s.len) (by show s.len < c1.n + 1; omega) hρ3
       exact ⟨_, _, _, _, _, rfl, g3, .undef _, (l1.mono (fun _ h => h.elim) : Later c h c1 h T).trans g2 hs.wf (fun f hf => .inr (hf ▸ hT _ (p1 p _ hmain))), hu⟩
   ·cases hu
  ·cases hu
 ·cases hu
theorem uopP_rel {T : Nat → Prop} (hs : RSt c h s) {o : Oper} {e : UEnv} {e' : Env} (he : REnv c h.get e e') {K : UV → USt → Option R} {r : R} (hu : uopP P o e s K = some r) (hT : ∀ p f, p ∈ touchesP o e → c.φ p f → T f) : Res T c h K r (vop P noCall o e' h) := by
 obtain ⟨dst, op, ty, pos, after, guard⟩ := o
 unfold uopP at hu
 simp only at hu
 split at hu
 · 
  rename_i x
  have hr := uev_rel he x
  split at hu
  ·rename_i p i hx
   rw [op_nilCheck]
   rw [hx] at hr
   generalize ev e' x = v at hr
   have hr' := hr
   cases hr
   exact Res.pure hs hr' hu
  ·rename_i p i hx
   rw [op_nilCheck]
   rw [hx] at hr
   generalize ev e' x = v at hr
   have hr' := hr
   cases hr
   exact Res.pure hs hr' hu
  ·exact uop_rel hs he hu (fun p f hp => by cases hp)
 · 
  rename_i t a
  have hr := uev_rel he a
  split at hu
  ·rename_i p i ha
   split at hu
   ·rename_i x0 x1 fe te hp ht hct
    have hct := Nat.eq_of_beq_eq_true hct
    have hp := poolOf_some hp
    rw [op_load]
    rw [ha] at hr
    generalize ev e' a = v at hr
    cases hr with
    | pe _ _ b i0 n cp z ps hpn hρ hi =>
     rcases pool_obj hs hp with ⟨e1, _⟩ | ⟨bm, i', n', cp', z', k, ps', fs, hρ2, hφ2, hg2, hro2, hesz2, hz2, h0, hn2, hcp2, hin2, hc2, hff2, hE2⟩
     ·rw [hρ] at e1; cases e1
     ·rw [hρ] at hρ2
      simp only [VV.tuple.injEq, List.cons.injEq, VV.slice.injEq] at hρ2
      obtain ⟨⟨rfl, rfl, rfl, rfl, rfl⟩, rfl⟩ := hρ2
      have hips : i < ps.length := by rw [hE2.len]; omega
      have hpi := List.getElem?_eq_getElem hips
      obtain ⟨b', hb'⟩ := hE2.ptr i _ hpi
      rw [hb'] at hpi
      have hv : vload P t h (.ptr b (i0 + i) 0) = some (.ptr b' 0 0) := by
       simp only [vload, rd, hg2, hc2 i _ hpi, hct]
       simp [fromCells, ht]
      rw [hv]
      exact Res.pure hs (.pp p i b' _ ps hpn hρ hpi) hu
   ·cases hu
  ·exact uop_rel hs he hu (fun p f hp => by cases hp)
 · 
  rename_i t x ix
  have hr := uev_rel he x
  split at hu
  ·rename_i p hx
   split at hu
   ·rename_i x0 x1 x2 el fts es j ht hp hj
    split at hu
    ·rename_i hce
     have hce := Nat.eq_of_beq_eq_true hce
     obtain ⟨q, hK⟩ := cond_some hu
     obtain ⟨q1, q2⟩ := within_iff q
     have hp := poolOf_some hp
     rw [op_indexAddr, ht, uNat_rel hj (uev_rel he ix) q1]
     rw [hx] at hr
     generalize ev e' x = v at hr
     cases hr with
     | pown _ _ ps hpn hρ hv =>
      rcases pool_obj hs hp with ⟨_, _, e1, _⟩ | ⟨bm, i', n', cp', z', k, ps', fs, hρ2, hφ2, hg2, hro2, hesz2, hz2, h0, hn2, hcp2, hin2, hc2, hff2, hE2⟩
      ·subst e1; simp at q2
      ·rw [hρ] at hρ2
       simp only [VV.tuple.injEq, List.cons.injEq] at hρ2
       obtain ⟨rfl, rfl⟩ := hρ2
       simp only
       rw [if_pos ⟨by omega, by omega, by omega⟩]
       exact Res.pure hs (.pe p _ bm i' n' cp' z' ps hpn hρ (by omega)) hK
    ·cases hu
   ·cases hu
  ·exact uop_rel hs he hu (fun p f hp => by cases hp)
 · 
  rename_i op t x y u
  have hx := uev_rel he x
  have hy := uev_rel he y
  split at hu
  ·rename_i x0 x1 p i h1 h2
   rw [op_binOp]
   rw [h1] at hx
   rw [h2] at hy
   generalize ev e' x = v at hx
   generalize ev e' y = w at hy
   cases hx with
   | pp _ _ b sv ps hpn hρ hpi =>
    cases hy with
    | nilptr =>
     split at hu
     ·rename_i x0 te ht
      have hv : vbin P .eql t x y (.ptr b 0 0) .nilptr = some (.bool false) := by simp [vbin, veq, ht, eqOK]
      rw [hv]; exact Res.pure hs (.bool _) hu
     ·rename_i x0 te ht
      have hv : vbin P .neq t x y (.ptr b 0 0) .nilptr = some (.bool true) := by simp [vbin, veq, ht, eqOK]
      rw [hv]; exact Res.pure hs (.bool _) hu
     ·cases hu
  ·exact uop_rel hs he hu (fun p f hp => by cases hp)
 · 
  rename_i t len parts
  obtain ⟨p1, p2⟩ := uparts_rel he parts
  split at hu
  ·rename_i p hx
   rw [op_buildSlice]
   exact upoolNew_rel hs hu (by rw [← hx]; exact p1) (by rw [← hx]; exact p2)
  ·exact uop_rel hs he hu (fun p f hp => by cases hp)
 · 
  rename_i t a x
  have ha := uev_rel he a
  split at hu
  ·rename_i p i hx
   rw [op_store]
   rw [hx] at ha
   refine upoolPut_rel hs hu ha (uev_rel he x) (fun f hf => hT p f ?_ hf)
   simp only [touchesP, hx]
   split <;> simp
  ·rename_i hne
   refine uop_rel hs he hu (fun p f hp => hT p f ?_)
   simp only [touches] at hp
   simp only [touchesP]
   split at hp
   ·rename_i q g hq; rw [hq]; exact hp
   ·rename_i q i g hq; rw [hq]; exact hp
   ·rename_i q1 q2 q3 q4 q5 q6 hq; rw [hq]; exact hp
   ·cases hp
 · 
  rename_i cl
  obtain ⟨callee, args, ats⟩ := cl
  cases callee with
  | value f => exact uop_rel hs he hu (fun p f hp => by cases hp)
  | invoke f n => exact uop_rel hs he hu (fun p f hp => by cases hp)
  | builtin b =>
   cases b with
   | append =>
    simp only at hu
    split at hu
    ·rename_i x q hargs
     split at hu
     ·rename_i t u ht hu'
      split at hu
      ·rename_i us hus
       obtain ⟨x', y', e1, h1, h2⟩ := (show RVs c h.get [x, .pown q] (argsOf e' args) from by rw [← hargs]; exact uargs_rel he args).inv2
       have isSl : ∃ e, P.underlying t = some (.slice e) := by
        unfold upoolApp at hu
        split at hu
        ·rename_i el fts _ _ hft _; exact ⟨el, (poolFT_some hft).1⟩
        ·cases hu
       obtain ⟨el, htl⟩ := isSl
       have := upoolApp_rel (T0 := T) hs hu h1 h2 htl (fun o f ho => hT o f (by
        simp only [touchesP, hargs, ho]; simp))
       show Res T c h K r (vcall P noCall ⟨.builtin .append, args, ats⟩ e' h)
       unfold vcall
       simp only [e1, ht, hu', htl, hus]
       exact this
      ·cases hu
     ·cases hu
    ·rename_i hne
     refine uop_rel hs he hu (fun p f hp => hT p f ?_)
     simp only [touches] at hp
     simp only [touchesP]
     split at hp
     ·rename_i o l ho
      rw [ho]
      split
      ·rename_i e1; cases e1
      ·rename_i x p' e1; exact absurd (ho.trans e1) (hne _ _)
      ·rename_i e1; simp only [List.cons.injEq, UV.own.injEq] at e1; rw [← e1.1]; exact hp
      ·rename_i e1 e2 e3; exact absurd rfl (e3 o l)
     ·cases hp
   | len =>
    simp only at hu
    split at hu
    ·rename_i p hargs
     split at hu
     ·rename_i x0 x1 el fts es ht hp
      have hp := poolOf_some hp
      have hr : RVs c h.get [.pown p] (argsOf e' args) := by rw [← hargs]; exact uargs_rel he args
      have hl := hr.1
      show Res T c h K r (vcall P noCall ⟨.builtin .len, args, ats⟩ e' h)
      unfold vcall
      generalize argsOf e' args = vs at hr hl
      match vs, hl, hr with
      | [v], _, hr =>
       cases hr.head with
       | pown _ _ ps hpn hρ hv =>
        rcases pool_obj hs hp with ⟨e1, _, rfl, _⟩ | ⟨bm, i', n', cp', z', k, ps', fs, hρ2, hφ2, hg2, hro2, hesz2, hz2, h0, hn2, hcp2, hin2, hc2, hff2, hE2⟩
        ·rw [hρ] at e1
         simp only [VV.tuple.injEq, List.cons.injEq] at e1
         obtain ⟨rfl, _⟩ := e1
         simp only [ht]
         exact Res.pure hs (.int _ _) hu
        ·rw [hρ] at hρ2
         simp only [VV.tuple.injEq, List.cons.injEq] at hρ2
         obtain ⟨rfl, rfl⟩ := hρ2
         simp only [ht]
         rw [hn2]
         exact Res.pure hs (.int _ _) hu
     ·cases hu
    ·exact uop_rel hs he hu (fun p f hp => by cases hp)
   | _ => exact uop_rel hs he hu (fun p f hp => hT p f hp)
 ·rename_i h1 h2 h3 h4 h5 h6 h7
  refine uop_rel hs he hu (fun p f hp => hT p f ?_)
  cases op with
  | store t a x => exact (h6 t a x rfl).elim
  | call cl => exact (h7 cl rfl).elim
  | _ => exact hp
end
end Go.Proofs.Ythlbahcggmbfaaa.V

namespace Go.Proofs.Ythlbahcggmbfaaa.V
end Go.Proofs.Ythlbahcggmbfaaa.V

namespace Go.Proofs.Ythlbahcggmbfaaa.V
def QuietV (g : List VV → VHeap → Option (VV × VHeap)) : Prop := ∀ args h v h', g args h = some (v, h') → ∀ b o, h.get b = some o → h'.get b = some o
end Go.Proofs.Ythlbahcggmbfaaa.V

namespace Go.Proofs.Ythlbahcggmbfaaa.V
end Go.Proofs.Ythlbahcggmbfaaa.V

namespace Go.Proofs.Ythlbahcggmbfaaa.V
def isInt1 : List VV → Bool
 | [.int .i64 _] => true
 | _ => false
def xDelete : List VV → VHeap → Option (VV × VHeap)
 | [.slice b i n c 1, .int .i64 lo, .int .i64 hi], h => match h.get b with
  | some (.cells k) =>
   if 0 ≤ lo ∧ lo < hi ∧ hi.toNat ≤ n ∧ i + n ≤ k.es.length ∧ k.esz = 1 ∧ ((k.es.drop i).take n).all isInt1 = true then
    (overwrite h b i (((k.es.drop i).take n).take lo.toNat ++ ((k.es.drop i).take n).drop hi.toNat ++ List.replicate (hi.toNat - lo.toNat) [.int .i64 0])).map fun h' => (.slice b i (n - (hi.toNat - lo.toNat)) c 1, h')
   else none
  | _ => none
 | _, _ => none
end Go.Proofs.Ythlbahcggmbfaaa.V

namespace Go.Proofs.Ythlbahcggmbfaaa.V
def seatX : Ext := fun f => match Nat.beq f 58 with
 | true => some xDelete
 | false => none
def seatT : FuncId → Bool := fun f => Nat.beq f 58
theorem seatX_quiet {f : FuncId} {g : List VV → VHeap → Option (VV × VHeap)} (h : seatX f = some g) (ht : seatT f = false) : QuietV g := by
 unfold seatX at h
 unfold seatT at ht
 split at h
 ·rename_i hb; rw [ht] at hb; cases hb
 ·cases h
end Go.Proofs.Ythlbahcggmbfaaa.V

namespace Go.Proofs.Ythlbahcggmbfaaa.V
def ufn (P : Program) (g : FuncId) : Option Func := match seatX g with
 | none => P.funcs[g]?
 | some _ => none
theorem ufn_some {P : Program} {g : FuncId} {fn : Func} (h : ufn P g = some fn) : seatX g = none ∧ P.funcs[g]? = some fn := by
 unfold ufn at h
 split at h
 ·rename_i hx; exact ⟨hx, h⟩
 ·cases h
mutual
def UV.refs : UV → List Nat
 | .ptr o _ => [o]
 | .eptr o _ _ => [o]
 | .aptr _ o _ _ _ _ => [o]
 | .own o => [o]
 | .pown o => [o]
 | .pe o _ => [o]
 | .pp o _ => [o]
 | .map o => [o]
 | .iface _ v => UV.refs v
 | .agg cs => UV.refsL cs
 | .tuple cs => UV.refsL cs
 | _ => []
def UV.refsL : List UV → List Nat
 | [] => []
 | v :: vs => UV.refs v ++ UV.refsL vs
end
def UO.refs : UO → List Nat
 | .obj cs => UV.refsL cs
 | _ => []
def hasN : List Nat → Nat → Bool
 | [], _ => false
 | a :: l, o => Nat.beq a o || hasN l o
def nodupN : List Nat → Bool
 | [] => true
 | a :: l => !hasN l a && nodupN l
def reach (s : USt) : Nat → List Nat → List Nat → List Nat
 | 0, _, acc => acc
 | _ + 1, [], acc => acc
 | k + 1, o :: todo, acc => match hasN acc o with
  | true => reach s k todo acc
  | false => reach s k (todo ++ (s.get o).refs) (acc ++ [o])
def idx : List Nat → Nat → Option Nat
 | [], _ => none
 | a :: l, o => match Nat.beq a o with
  | true => some 0
  | false => (idx l o).map Nat.succ
mutual
def UV.pick (ids : List Nat) : UV → UV
 | .ptr o f => match idx ids o with | some j => .ptr j f | none => .undef
 | .eptr o i f => match idx ids o with | some j => .eptr j i f | none => .undef
 | .aptr fts o g n j f => match idx ids o with | some p => .aptr fts p g n j f | none => .undef
 | .own o => match idx ids o with | some j => .own j | none => .undef
 | .pown o => match idx ids o with | some j => .pown j | none => .undef
 | .pe o i => match idx ids o with | some j => .pe j i | none => .undef
 | .pp o i => match idx ids o with | some j => .pp j i | none => .undef
 | .map o => match idx ids o with | some j => .map j | none => .undef
 | .iface t v => .iface t (UV.pick ids v)
 | .agg cs => .agg (UV.picks ids cs)
 | .tuple cs => .tuple (UV.picks ids cs)
 | v => v
def UV.picks (ids : List Nat) : List UV → List UV
 | [] => []
 | v :: vs => UV.pick ids v :: UV.picks ids vs
end
def UO.pick (ids : List Nat) : UO → UO
 | .obj cs => .obj (UV.picks ids cs)
 | u => u
def USt.pick (s : USt) (ids : List Nat) : List Nat → USt
 | [] => []
 | o :: l => (s.get o).pick ids :: USt.pick s ids l
mutual
def UV.ren (f : Nat → Nat) : UV → UV
 | .ptr o g => .ptr (f o) g
 | .eptr o i g => .eptr (f o) i g
 | .aptr fts o g n j q => .aptr fts (f o) g n j q
 | .own o => .own (f o)
 | .pown o => .pown (f o)
 | .pe o i => .pe (f o) i
 | .pp o i => .pp (f o) i
 | .map o => .map (f o)
 | .iface t v => .iface t (UV.ren f v)
 | .agg cs => .agg (UV.rens f cs)
 | .tuple cs => .tuple (UV.rens f cs)
 | v => v
def UV.rens (f : Nat → Nat) : List UV → List UV
 | [] => []
 | v :: vs => UV.ren f v :: UV.rens f vs
end
def UO.ren (f : Nat → Nat) : UO → UO
 | .obj cs => .obj (UV.rens f cs)
 | u => u
def nth : List Nat → Nat → Nat
 | [], _ => 0
 | a :: _, 0 => a
 | _ :: l, n + 1 => nth l n
def lenN : List Nat → Nat
 | [] => 0
 | _ :: l => Nat.succ (lenN l)
def backTo (ids : List Nat) (n : Nat) (j : Nat) : Nat := match Nat.ble (lenN ids) j with
 | true => n + (j - lenN ids)
 | false => nth ids j
def USt.pushAll (s : USt) (f : Nat → Nat) : USt → USt
 | [] => s
 | u :: us => USt.pushAll (s.push (u.ren f)) f us
def writeBack (f : Nat → Nat) : USt → List Nat → USt → Option USt
 | s, [], rest => some (s.pushAll f rest)
 | _, _ :: _, [] => none
 | s, o :: ids, u :: us => writeBack f (s.upd o (u.ren f)) ids us
mutual
def UV.scal : UV → Bool
 | .bool _ | .int _ _ | .str _ | .nilptr | .nilslice | .nilmap | .nilfunc | .niliface => true
 | .agg cs => UV.scals cs
 | .tuple cs => UV.scals cs
 | .iface _ v => UV.scal v
 | _ => false
def UV.scals : List UV → Bool
 | [] => true
 | v :: vs => UV.scal v && UV.scals vs
end
def lend1 (s : USt) : UV → UV
 | .own o => match rowOf (s.get o) with
  | some (fts, es) => .fz fts es false
  | none => .undef
 | v => v
def lend (s : USt) : UV → UV
 | .agg cs => .agg (cs.map (lend1 s))
 | v => lend1 s v
def codeSub : Code → Bool → Option Code
 | .seq a b, right => some (match right with | true => b | false => a)
 | .cond _ a b, right => some (match right with | true => b | false => a)
 | .block _ c, false => some c
 | .loop c, false => some c
 | _, _ => none
def codeWay : Nat → Nat → List Bool → List Bool
 | 0, _, acc => acc
 | k + 1, p, acc => match Nat.ble p 1 with
  | true => acc
  | false => codeWay k (p / 2) (Nat.beq (p % 2) 1 :: acc)
def codeGo : Code → List Bool → Option Code
 | c, [] => some c
 | c, b :: l => match codeSub c b with
  | some d => codeGo d l
  | none => none
def codeAt (c : Code) (p : Nat) : Option Code := codeGo c (codeWay p p [])
abbrev ToldF := (R : Type) → List UV → USt → (UV → USt → Option R) → Option R
abbrev ToldP := (R : Type) → UEnv → USt → (VExit → UEnv → USt → Option R) → Option R
structure Known where
 F : FuncId → Option (Bool × ToldF)
 Pc : Nat → Option ToldP
section
variable (P : Program) {R : Type}
def allLt : List Nat → Nat → Bool
 | [], _ => true
 | a :: l, n => Nat.ble (a + 1) n && allLt l n
def isNilN : List Nat → Bool
 | [] => true
 | _ => false
def toldIds (own : Bool) (args : List UV) (s : USt) : List Nat :=
 match own with
 | true => reach s 200 (UV.refsL args) []
 | false => reach s 200 (UV.refsL (args.map (lend s))) []
def toldArgs (own : Bool) (args : List UV) (s : USt) : List UV :=
 match own with
 | true => args
 | false => args.map (lend s)
def toldCells (own : Bool) (args : List UV) : List UV :=
 match own with
 | true => []
 | false => (args.map ucells).flatten
def utold (own : Bool) (told : ToldF) (args : List UV) (s : USt) (K : UV → USt → Option R) : Option R :=
 let ids := toldIds own args s
 let s1 := freeze s (toldCells own args)
 match nodupN ids && allLt ids s.len with
 | true => told R (UV.picks ids (toldArgs own args s)) (s1.pick ids ids) fun v st =>
   match isNilN ids && v.scal with
   | true => K v s
   | false => match writeBack (backTo ids s.len) s1 ids st with
    | some s2 => K (v.ren (backTo ids s.len)) s2
    | none => none
 | false => none
def uresult (e : UEnv) (s : USt) : ResultVar → Option UV
 | .tmp t => some (e.get t)
 | .cell a t => uload P t s (e.get a)
def uresultsL (e : UEnv) (s : USt) : List ResultVar → Option (List UV)
 | [] => some []
 | r :: rs => match uresult P e s r, uresultsL e s rs with
  | some v, some vs => some (v :: vs)
  | _, _ => none
def uresults (fn : Func) (e : UEnv) (s : USt) : Option UV :=
 match uresultsL P e s fn.results.toList with
 | some [v] => some v
 | some vs => some (.tuple vs)
 | none => none
def leList : List UV → Nat → Bool
 | [], _ => true
 | _ :: _, 0 => false
 | _ :: l, n + 1 => leList l n
def uskip : UV := .tuple []
def uinvoke (call : FuncId → List UV → USt → (UV → USt → Option R) → Option R) (name : String) (args : List UV) (d : D) (s : USt) (K : UV → USt → Option R) : List Nat → List FT → Option R
 | t :: ts, ft :: fts => cond (tagIs t d) (match vmethod P t name with
  | some g => match plainFunc P g with
   | true => call g (ofD ft (payD d) :: args) s K
   | false => none
  | none => none) (uinvoke call name args d s K ts fts)
 | _, _ => none
def ustep (call : FuncId → List UV → USt → (UV → USt → Option R) → Option R) (o : Oper) (e : UEnv) (s : USt) (K : UV → USt → Option R) : Option R :=
 match o.op with
 | .call c => match c.callee with
  | .builtin _ => uopP P o e s K
  | .value f => match uev e f with
   | .func g => match plainFunc P g with
    | true => call g (uargs e c.args) s K
    | false => none
   | _ => none
  | .invoke r name => match uev e r with
   | .iface t v => match vmethod P t name with
    | some g => match plainFunc P g with
     | true => call g (v :: uargs e c.args) s K
     | false => none
    | none => none
   | .ifz ts fts d => uinvoke P call name (uargs e c.args) d s K ts fts
   | _ => none
 | _ => uopP P o e s K
def guardTmp (ops : Array Oper) (j : Nat) : Option Tmp := (ops[j]?).bind (·.dst)
def uops (call : FuncId → List UV → USt → (UV → USt → Option R) → Option R) (ops : Array Oper) : List Oper → UEnv → USt → (UEnv → USt → Option R) → Option R
 | [], e, s, K => K e s
 | o :: l, e, s, K =>
  match o.guard with
  | none => ustep P call o e s fun v s => uops call ops l (e.put o.dst v) s K
  | some (j, want) => match guardTmp ops j with
   | none => none
   | some t => match e.get t with
    | .bool p => cond p
      (match want with
       | true => ustep P call o (e.set t (.bool true)) s fun v s => uops call ops l ((e.set t (.bool true)).put o.dst v) s K
       | false => uops call ops l ((e.set t (.bool true)).put o.dst uskip) s K)
      (match want with
       | false => ustep P call o (e.set t (.bool false)) s fun v s => uops call ops l ((e.set t (.bool false)).put o.dst v) s K
       | true => uops call ops l ((e.set t (.bool false)).put o.dst uskip) s K)
    | .tuple [] => uops call ops l (e.put o.dst uskip) s K
    | _ => none
inductive Src where
 | var (o : Nat)
 | row (o : Nat)
 | data
 | other
def srcOf (o : Oper) (e : UEnv) (s : USt) : Src :=
 match o.op with
 | .load _ a => match uev e a with
  | .ptr o _ => match s.get o with
   | .obj _ => .var o
   | _ => .other
  | .aptr _ o _ _ _ _ => match s.get o with
   | .obj _ => .var o
   | _ => .other
  | .eptr o _ _ => match s.get o with
   | .row _ _ => .row o
   | _ => .other
  | .fptr _ _ _ _ => .data
  | .pn _ _ _ => .data
  | _ => .other
 | _ => .other
def Src.log : Src → Src
 | .row _ => .other
 | x => x
structure RLog where
 at_ : Nat
 src : Src
 stale : Bool
structure ELog where
 at_ : Nat
 touched : List Nat
 n : Nat
def reads (bef : Nat) : Src → List Nat → List ELog → Bool
 | _, _, [] => true
 | .row o, acc, l :: ls => (bef.testBit l.at_ || (Nat.blt o l.n && !hasN (l.touched ++ acc) o)) && reads bef (.row o) (l.touched ++ acc) ls
 | .var o, acc, l :: ls => (bef.testBit l.at_ || (Nat.blt o l.n && !hasN (l.touched ++ acc) o)) && reads bef (.var o) (l.touched ++ acc) ls
 | x, acc, l :: ls => bef.testBit l.at_ && reads bef x (l.touched ++ acc) ls
def RLog.turn (t : List Nat) (l : RLog) : RLog :=
 match l.src with
 | .var o => { l with stale := l.stale || hasN t o }
 | .row _ => { l with stale := true }
 | .data => l
 | .other => { l with stale := true }
def writes (bef : Nat) : List RLog → Bool
 | [] => true
 | l :: ls => (bef.testBit l.at_ || !l.stale) && writes bef ls
def rangeN : Nat → List Nat
 | 0 => []
 | n + 1 => n :: rangeN n
def callTouch (T : Known) (f : FuncId) (args : List UV) (s : USt) : List Nat :=
 match seatX f, seatT f with
 | some _, false => []
 | _, _ => match T.F f with
  | some (own, _) => toldIds own args s
  | none => rangeN s.len
def stepTouch (T : Known) (o : Oper) (e : UEnv) (s : USt) : List Nat :=
 match o.op with
 | .call c => match c.callee with
  | .builtin _ => touchesP o e
  | .value f => match uev e f with
   | .func g => callTouch T g (uargs e c.args) s
   | _ => []
  | .invoke r name => match uev e r with
   | .iface t v => match vmethod P t name with
    | some g => callTouch T g (v :: uargs e c.args) s
    | none => []
   | .ifz _ _ _ => rangeN s.len
   | _ => []
 | _ => touchesP o e
mutual
def UV.def? : UV → Bool
 | .undef => false
 | .func _ => false
 | .iface _ v => UV.def? v
 | .agg cs => UV.defs? cs
 | .tuple cs => UV.defs? cs
 | _ => true
def UV.defs? : List UV → Bool
 | [] => true
 | v :: vs => UV.def? v && UV.defs? vs
end
def lentOK (t : List Nat) : Nat → USt → USt → Bool
 | i, u :: s, v :: s' => (match v with
  | .lent => match u with
   | .lent => true
   | _ => hasN t i
  | _ => true) && lentOK t (i + 1) s s'
 | _, _, _ => true
def udraw (T : Known) (call : FuncId → List UV → USt → (UV → USt → Option R) → Option R) (ops : Array Oper) (bef : Array Nat) : Nat → List Oper → UEnv → USt → List RLog → List ELog → (UEnv → USt → Option R) → Option R
 | _, [], e, s, _, _, K => K e s
 | i, o :: l, e, s, rs, es, K =>
  let run (e : UEnv) : Option R := match kindOf P o with
   | .read => match reads (bef.getD i 0) (srcOf o e s) [] es with
    | true => ustep P call o e s fun v s' => match v.def? && lentOK [] 0 s s' with
     | true => udraw T call ops bef (i + 1) l (e.put o.dst v) s' (⟨i, srcOf o e s, false⟩ :: rs) es K
     | false => none
    | false => none
   | .eff =>
    let t := stepTouch P T o e s
    let rs' := rs.map (RLog.turn t)
    match writes (bef.getD i 0) rs' with
    | true => ustep P call o e s fun v s' => match lentOK t 0 s s' with
     | true => udraw T call ops bef (i + 1) l (e.put o.dst v) s' rs' (⟨i, t, s.len⟩ :: es) K
     | false => none
    | false => none
   | _ => ustep P call o e s fun v s' => match lentOK [] 0 s s' with
    | true => udraw T call ops bef (i + 1) l (e.put o.dst v) s' rs es K
    | false => none
  match o.guard with
  | none => run e
  | some (j, want) => match guardTmp ops j with
   | none => none
   | some t => match e.get t with
    | .bool p => cond p
      (match want with
       | true => run (e.set t (.bool true))
       | false => udraw T call ops bef (i + 1) l ((e.set t (.bool true)).put o.dst uskip) s rs es K)
      (match want with
       | false => run (e.set t (.bool false))
       | true => udraw T call ops bef (i + 1) l ((e.set t (.bool false)).put o.dst uskip) s rs es K)
    | .tuple [] => udraw T call ops bef (i + 1) l (e.put o.dst uskip) s rs es K
    | _ => none
def uexec (F : FuncId → Option (Bool × ToldF)) : Nat → (Nat → Option ToldP) → Nat → Code → UEnv → USt → (VExit → UEnv → USt → Option R) → Option R
 | 0, _, _, _, _, _, _ => none
 | k + 1, Pc, p, c, e, s, K =>
  match Pc p with
  | some told => told R e s K
  | none =>
   match c with
   | .skip => K .normal e s
   | .label _ => K .normal e s
   | .region _ ops draw =>
    let call : FuncId → List UV → USt → (UV → USt → Option R) → Option R := fun g args s K =>
     match F g with
     | some (own, told) => utold own told args s K
     | none => match ufn P g with
      | some fn => match fn.body with
       | some c => match leList args fn.ntmps with
        | true => uexec F k (fun _ => none) 1 c args s fun x e s => match x with
         | .exit _ => none
         | _ => match uresults P fn e s with
          | some v => K v s
          | none => none
        | false => none
       | none => none
      | none => none
    match draw with
    | false => uops P call ops ops.toList e s fun e s => K .normal e s
    | true => match drawOK P ops with
     | true => udraw P ⟨F, fun _ => none⟩ call ops (Region.before ops) 0 ops.toList e s [] [] fun e s => K .normal e s
     | false => none
   | .seq a b => uexec F k Pc (2 * p) a e s fun x e s => match x with
    | .normal => uexec F k Pc (2 * p + 1) b e s K
    | x => K x e s
   | .cond c a b => match uev e c with
    | .bool q => cond q (uexec F k Pc (2 * p) a e s K) (uexec F k Pc (2 * p + 1) b e s K)
    | _ => none
   | .block id c => uexec F k Pc (2 * p) c e s fun x e s => match x with
    | .exit id' => match Nat.beq id' id with
     | true => K .normal e s
     | false => K (.exit id') e s
    | x => K x e s
   | .loop c => uexec F k Pc (2 * p) c e s fun x e s => match x with
    | .normal => uexec F k Pc p (.loop c) e s K
    | x => K x e s
   | .exit id => K (.exit id) e s
   | .ret => K .ret e s
   | _ => none
def ufun (T : Known) (k : Nat) (f : FuncId) (args : List UV) (s : USt) (K : UV → USt → Option R) : Option R :=
 match ufn P f with
 | some fn => match fn.body with
  | some c => match leList args fn.ntmps with
   | true => uexec P T.F k T.Pc 1 c args s fun x e s => match x with
    | .exit _ => none
    | _ => match uresults P fn e s with
     | some v => K v s
     | none => none
   | false => none
  | none => none
 | none => none
end
end Go.Proofs.Ythlbahcggmbfaaa.V

namespace Go.Proofs.Ythlbahcggmbfaaa.V
section
variable {P : Program}
def Tells (P : Program) (f : FuncId) (told : ToldF) : Prop :=
 ∀ (R : Type) args st (K : UV → USt → Option R) r, told R args st K = some r → ∀ (c : Cx) (h : VHeap) vargs, RSt c h st → RVs c h.get args vargs →
  VC P seatX f vargs h fun v h' => ∃ u s1 c1, RSt c1 h' s1 ∧ RV c1 h'.get u v ∧ Later c h c1 h' c.fams ∧ K u s1 = some r
structure LaterM (m : Nat) (c : Cx) (h : VHeap) (c' : Cx) (h' : VHeap) (T : Nat → Prop) : Prop where
 n : m ≤ c'.n
 ρ : ∀ o, o < m → c'.ρ o = c.ρ o
 K : ∀ f, c.K f → c'.K f
 next : h.next ≤ h'.next
 same : ∀ b o, h.get b = some o → ¬ T (match o with | .cells k => k.fam | .map _ => b) → h'.get b = some o
 fam : ∀ b k, h.get b = some (.cells k) → ∃ k', h'.get b = some (.cells k') ∧ k'.fam = k.fam
 mp : ∀ b es, h.get b = some (.map es) → ∃ es', h'.get b = some (.map es')
 newK : ∀ f, c'.K f → c.K f ∨ h.next ≤ f ∨ ∃ o, c.φ o f
 newφ : ∀ o f, c'.φ o f → h.next ≤ f ∨ ∃ o, c.φ o f
 oldφ : ∀ o f, o < m → c'.φ o f → c.φ o f
theorem Later.toM {m : Nat} {c c' : Cx} {h h' : VHeap} {T : Nat → Prop} (hL : Later c h c' h' T) (hm : m ≤ c.n) : LaterM m c h c' h' T :=
 ⟨Nat.le_trans hm hL.n, fun o ho => hL.ρ o (Nat.lt_of_lt_of_le ho hm), hL.K, hL.next, hL.same, hL.fam, hL.mp, hL.newK, hL.newφ, fun o f ho => hL.oldφ o f (Nat.lt_of_lt_of_le ho hm)⟩
theorem LaterM.full {c c' : Cx} {h h' : VHeap} {T : Nat → Prop} (hL : LaterM c.n c h c' h' T) : Later c h c' h' T := ⟨hL.n, hL.ρ, hL.K, hL.next, hL.same, hL.fam, hL.mp, hL.newK, hL.newφ, hL.oldφ⟩
theorem LaterM.refl {m : Nat} {c : Cx} (hm : m ≤ c.n) (h : VHeap) (T : Nat → Prop) : LaterM m c h c h T := (Later.refl c h T).toM hm
theorem LaterM.trans {m : Nat} {c c1 c' : Cx} {h h1 h' : VHeap} (hL : LaterM m c h c1 h1 c.fams) (hM : LaterM m c1 h1 c' h' c1.fams) (hw : WF h.get h.next) : LaterM m c h c' h' c.fams := by
 refine ⟨hM.n, fun o ho => (hM.ρ o ho).trans (hL.ρ o ho), fun f hf => hM.K f (hL.K f hf), Nat.le_trans hL.next hM.next, ?_, ?_, ?_, ?_, ?_, fun o f ho hf => hL.oldφ o f ho (hM.oldφ o f ho hf)⟩
 ·intro b o hb hn
  refine hM.same b o (hL.same b o hb hn) (fun ⟨p, ht⟩ => ?_)
  rcases hL.newφ p _ ht with h2 | h2
  ·cases o with
   | cells k => have := hw.fam b k hb; simp only at h2; omega
   | map es => have := hw.lt b _ hb; simp only at h2; omega
  ·exact hn h2
 ·intro b k hb
  obtain ⟨k1, h2, e1⟩ := hL.fam b k hb
  obtain ⟨k2, h3, e2⟩ := hM.fam b k1 h2
  exact ⟨k2, h3, e2.trans e1⟩
 ·intro b es hb
  obtain ⟨k1, h2⟩ := hL.mp b es hb
  exact hM.mp b k1 h2
 ·intro f hf
  rcases hM.newK f hf with h2 | h2 | ⟨o, h2⟩
  ·exact hL.newK f h2
  ·exact .inr (.inl (Nat.le_trans hL.next h2))
  ·rcases hL.newφ o f h2 with h3 | h3
   ·exact .inr (.inl h3)
   ·exact .inr (.inr h3)
 ·intro o f hf
  rcases hM.newφ o f hf with h2 | ⟨o', h2⟩
  ·exact .inl (Nat.le_trans hL.next h2)
  ·exact hL.newφ o' f h2
def SoundP (P : Program) (m : Nat) (code : Code) (told : ToldP) : Prop :=
 ∀ (R : Type) e st (K : VExit → UEnv → USt → Option R) r, told R e st K = some r → ∀ (c : Cx) (h : VHeap) e', m ≤ c.n → RSt c h st → REnv c h.get e e' →
  WP P seatX code e' h fun x e1 h1 => ∃ u1 s1 c1, RSt c1 h1 s1 ∧ REnv c1 h1.get u1 e1 ∧ LaterM m c h c1 h1 c.fams ∧ K x u1 s1 = some r
theorem hasN_iff {l : List Nat} {o : Nat} : hasN l o = true ↔ o ∈ l := by
 induction l with
 | nil => simp [hasN]
 | cons a l ih =>
  simp only [hasN, Bool.or_eq_true, ih, List.mem_cons]
  constructor
  ·rintro (h | h)
   ·exact .inl (Nat.eq_of_beq_eq_true h).symm
   ·exact .inr h
  ·rintro (rfl | h)
   ·exact .inl (Nat.beq_refl _)
   ·exact .inr h
theorem nodupN_iff {l : List Nat} (h : nodupN l = true) : l.Nodup := by
 induction l with
 | nil => exact List.nodup_nil
 | cons a l ih =>
  simp only [nodupN, Bool.and_eq_true, Bool.not_eq_true'] at h
  refine List.nodup_cons.2 ⟨fun hm => ?_, ih h.2⟩
  rw [hasN_iff.2 hm] at h; cases h.1
theorem lenN_eq (l : List Nat) : lenN l = l.length := by
 induction l with
 | nil => rfl
 | cons a l ih => simp [lenN, ih]
theorem idx_some {l : List Nat} {o j : Nat} (h : idx l o = some j) : l[j]? = some o := by
 induction l generalizing j with
 | nil => cases h
 | cons a l ih =>
  simp only [idx] at h
  split at h
  ·rename_i hb; simp only [Option.some.injEq] at h; subst h; simp [Nat.eq_of_beq_eq_true hb]
  ·simp only [Option.map_eq_some_iff] at h
   obtain ⟨k, hk, rfl⟩ := h
   simpa using ih hk
theorem nth_eq {l : List Nat} {j o : Nat} (h : l[j]? = some o) : nth l j = o := by
 induction l generalizing j with
 | nil => cases h
 | cons a l ih => cases j with
  | zero => simp at h; simp [nth, h]
  | succ j => simp at h; simp [nth, ih h]
theorem nodup_at {l : List Nat} (hnd : l.Nodup) {j k o : Nat} (hj : l[j]? = some o) (hk : l[k]? = some o) : j = k := by
 induction l generalizing j k with
 | nil => cases hj
 | cons a l ih =>
  obtain ⟨hna, hnd⟩ := List.nodup_cons.1 hnd
  cases j with
  | zero => cases k with
   | zero => rfl
   | succ k => simp at hj hk; subst hj; exact absurd (List.mem_of_getElem? hk) hna
  | succ j => cases k with
   | zero => simp at hj hk; subst hk; exact absurd (List.mem_of_getElem? hj) hna
   | succ k => simp at hj hk; rw [ih hnd hj hk]
def Cx.pick (c : Cx) (ids : List Nat) : Cx := ⟨ids.length, fun j => match ids[j]? with | some o => c.ρ o | none => .undef, c.K, fun j => match ids[j]? with | some o => c.φ o | none => nof⟩
section
variable {c : Cx} {h : VHeap} {s : USt} {ids : List Nat}
theorem Cx.pick_ρ {j o : Nat} (h : ids[j]? = some o) : (c.pick ids).ρ j = c.ρ o := by simp only [Cx.pick, h]
mutual
theorem RV.pick {g : VG} : ∀ {u : UV} {v : VV}, RV c g u v → RV (c.pick ids) g (u.pick ids) v
 | .undef, _, _ => .undef _
 | .bool b, _, h => by cases h; exact .bool b
 | .int k n, _, h => by cases h; exact .int k n
 | .str x, _, h => by cases h; exact .str x
 | .nilptr, _, h => by cases h; exact .nilptr
 | .ptr o f, _, h => by
  cases h with
  | ptr _ _ b ho hb =>
   simp only [UV.pick]
   split
   ·rename_i j hj
    have := idx_some hj
    exact .ptr j f b (List.getElem?_eq_some_iff.1 this).1 (by rw [Cx.pick_ρ this]; exact hb)
   ·exact .undef _
 | .aptr fts o g n q f, _, h => by
  cases h with
  | aptr _ _ _ _ _ _ b ho hb hj =>
   simp only [UV.pick]
   split
   ·rename_i j hq
    have := idx_some hq
    exact .aptr fts j g n q f b (List.getElem?_eq_some_iff.1 this).1 (by rw [Cx.pick_ρ this]; exact hb) hj
   ·exact .undef _
 | .eptr o i f, _, h => by
  cases h with
  | eptr _ _ _ b i0 n cp z ho hb hi =>
   simp only [UV.pick]
   split
   ·rename_i j hj
    have := idx_some hj
    exact .eptr j i f b i0 n cp z (List.getElem?_eq_some_iff.1 this).1 (by rw [Cx.pick_ρ this]; exact hb) hi
   ·exact .undef _
 | .fptr fts es i f, _, h => by
  cases h with
  | fptr _ _ _ _ b i0 n cp z hb hi => exact .fptr _ _ _ _ b i0 n cp z hb hi
 | .nilslice, _, h => by cases h; exact .nilslice
 | .own o, _, h => by
  cases h with
  | own _ _ ho hb hv =>
   simp only [UV.pick]
   split
   ·rename_i j hj
    have := idx_some hj
    exact .own j _ (List.getElem?_eq_some_iff.1 this).1 (by rw [Cx.pick_ρ this]; exact hb) hv
   ·exact .undef _
 | .fz fts es cut, _, h => by
  cases h with
  | fz _ _ _ _ hrd hc => exact .fz _ _ _ _ hrd hc
 | .nn fts es, _, h => by
  cases h with
  | nn _ _ _ hrd hv => exact .nn _ _ _ hrd hv
 | .pown o, _, h => by
  cases h with
  | pown _ _ ps ho hb hv =>
   simp only [UV.pick]
   split
   ·rename_i j hj
    have := idx_some hj
    exact .pown j _ ps (List.getElem?_eq_some_iff.1 this).1 (by rw [Cx.pick_ρ this]; exact hb) hv
   ·exact .undef _
 | .pe o i, _, h => by
  cases h with
  | pe _ _ b i0 n cp z ps ho hb hi =>
   simp only [UV.pick]
   split
   ·rename_i j hj
    have := idx_some hj
    exact .pe j i b i0 n cp z ps (List.getElem?_eq_some_iff.1 this).1 (by rw [Cx.pick_ρ this]; exact hb) hi
   ·exact .undef _
 | .pp o i, _, h => by
  cases h with
  | pp _ _ b sv ps ho hb hp =>
   simp only [UV.pick]
   split
   ·rename_i j hj
    have := idx_some hj
    exact .pp j i b sv ps (List.getElem?_eq_some_iff.1 this).1 (by rw [Cx.pick_ρ this]; exact hb) hp
   ·exact .undef _
 | .nilmap, _, h => by cases h; exact .nilmap
 | .map o, _, h => by
  cases h with
  | map _ b ho hb =>
   simp only [UV.pick]
   split
   ·rename_i j hj
    have := idx_some hj
    exact .map j b (List.getElem?_eq_some_iff.1 this).1 (by rw [Cx.pick_ρ this]; exact hb)
   ·exact .undef _
 | .nilfunc, _, h => by cases h; exact .nilfunc
 | .func f, _, h => by cases h; exact .func f
 | .pz _ _, _, h => by
  cases h with
  | pz _ _ _ hrd => exact .pz _ _ _ hrd
 | .pn _ _ _, _, h => by
  cases h with
  | pn _ _ _ b hrd => exact .pn _ _ _ b hrd
 | .ifz _ _ _, _, h => by
  cases h with
  | ifz _ _ _ _ hrd => exact .ifz _ _ _ _ hrd
 | .niliface, _, h => by cases h; exact .niliface
 | .iface t u, _, h => by
  cases h with
  | iface _ _ v hv => exact .iface t _ v (RV.pick hv)
 | .agg us, _, h => by
  cases h with
  | agg _ vs hl hp => exact RV.agg' (RVs.picks ⟨hl, hp⟩)
 | .tuple us, _, h => by
  cases h with
  | tuple _ vs hl hp => exact RV.tuple' (RVs.picks ⟨hl, hp⟩)
theorem RVs.picks {g : VG} : ∀ {us : List UV} {vs : List VV}, RVs c g us vs → RVs (c.pick ids) g (UV.picks ids us) vs
 | [], vs, h => by
  have := h.1
  match vs, this with
  | [], _ => exact RVs.nil _ _
 | u :: us, vs, h => by
  have := h.1
  match vs, this, h with
  | v :: vs, _, h => exact RVs.cons (RV.pick h.head) (RVs.picks h.tail)
end
theorem picks_len (us : List UV) : (UV.picks ids us).length = us.length := by
 induction us with
 | nil => rfl
 | cons u us ih => simp [UV.picks, ih]
theorem RO.pick {g : VG} {u : UO} {v : VV} {fm : Nat → Prop} (hr : RO c g u v fm) : RO (c.pick ids) g (u.pick ids) v fm := by
 cases hr with
 | obj cs b k xs hg hes hz hro hso hx hr => exact .obj _ b k xs hg hes (by rw [picks_len]; exact hz) hro hso hx hr.picks
 | rowNil fts => exact .rowNil fts
 | rowCut fts b i z k hg hK hz hz' h0 hi => exact .rowCut fts b i z k hg hK hz hz' h0 hi
 | row fts es b i n cp z k hg hro hz hz' h0 hn hcp hs => exact .row fts es b i n cp z k hg hro hz hz' h0 hn hcp hs
 | old fts es v h => exact .old fts es v h
 | map kf ag fts es b ves hg hk hl h => exact .map kf ag fts es b ves hg hk hl h
 | poolNil fts => exact .poolNil fts
 | pool fts es x b i n cp z k ps fs hg hro hz hz' h0 hn hcp hin hc hff hE => exact .pool fts es x b i n cp z k ps fs hg hro hz hz' h0 hn hcp hin hc hff hE
 | lent v => exact .lent v
 | gone v hv => exact .gone v hv
theorem pick_get (l : List Nat) (j : Nat) : USt.get (s.pick ids l) j = match l[j]? with | some o => (s.get o).pick ids | none => .gone := by
 induction l generalizing j with
 | nil => rfl
 | cons a l ih => cases j with
  | zero => rfl
  | succ j => simp only [USt.pick, USt.get, ih, List.getElem?_cons_succ]
theorem pick_len (l : List Nat) : USt.len (s.pick ids l) = l.length := by
 induction l with
 | nil => rfl
 | cons a l ih => simp [USt.pick, USt.len, ih]
theorem RSt.pick (hs : RSt c h s) (hnd : ids.Nodup) : RSt (c.pick ids) h (s.pick ids ids) := by
 refine ⟨hs.wf, pick_len ids, fun j => ?_, fun j k f h1 h2 => ?_, fun j f h1 hK => ?_, fun j f h1 => ?_, hs.ltK, fun j hj => ?_⟩
 ·rw [pick_get]
  show RO _ _ _ (match ids[j]? with | some o => c.ρ o | none => .undef) (match ids[j]? with | some o => c.φ o | none => nof)
  cases ids[j]? with
  | none => exact .gone _ (by intro b i f e; cases e)
  | some o => exact (hs.obj o).pick
 ·simp only [Cx.pick] at h1 h2
  cases hj : ids[j]? with
  | none => rw [hj] at h1; cases h1
  | some o =>
   cases hk : ids[k]? with
   | none => rw [hk] at h2; cases h2
   | some p =>
    rw [hj] at h1; rw [hk] at h2
    have := hs.dis o p f h1 h2
    subst this
    exact nodup_at hnd hj hk
 ·simp only [Cx.pick] at h1
  cases hj : ids[j]? with
  | none => rw [hj] at h1; cases h1
  | some o => rw [hj] at h1; exact hs.ndK o f h1 hK
 ·simp only [Cx.pick] at h1
  cases hj : ids[j]? with
  | none => rw [hj] at h1; cases h1
  | some o => rw [hj] at h1; exact hs.ltφ o f h1
 ·have hj : ids.length ≤ j := hj
  simp only [Cx.pick, List.getElem?_eq_none hj]
theorem Cx.pick_fams {f : Nat} (hf : (c.pick ids).fams f) : ∃ o, o ∈ ids ∧ c.φ o f := by
 obtain ⟨j, hj⟩ := hf
 simp only [Cx.pick] at hj
 cases ho : ids[j]? with
 | none => rw [ho] at hj; cases hj
 | some o => rw [ho] at hj; exact ⟨o, List.mem_of_getElem? ho, hj⟩
mutual
theorem RV.ren {c2 : Cx} {g : VG} {f : Nat → Nat} (hf : ∀ j, j < c2.n → f j < c.n ∧ c.ρ (f j) = c2.ρ j) (hK : c.K = c2.K) : ∀ {u : UV} {v : VV}, RV c2 g u v → RV c g (u.ren f) v
 | .undef, _, _ => .undef _
 | .bool b, _, h => by cases h; exact .bool b
 | .int k n, _, h => by cases h; exact .int k n
 | .str x, _, h => by cases h; exact .str x
 | .nilptr, _, h => by cases h; exact .nilptr
 | .ptr o q, _, h => by
  cases h with
  | ptr _ _ b ho hb => exact .ptr _ _ b (hf o ho).1 ((hf o ho).2.trans hb)
 | .aptr fts o g n j q, _, h => by
  cases h with
  | aptr _ _ _ _ _ _ b ho hb hj => exact .aptr fts _ g n j q b (hf o ho).1 ((hf o ho).2.trans hb) hj
 | .eptr o i q, _, h => by
  cases h with
  | eptr _ _ _ b i0 n cp z ho hb hi => exact .eptr _ _ _ b i0 n cp z (hf o ho).1 ((hf o ho).2.trans hb) hi
 | .fptr fts es i q, _, h => by
  cases h with
  | fptr _ _ _ _ b i0 n cp z hb hi => exact .fptr _ _ _ _ b i0 n cp z (by rw [hK]; exact hb) hi
 | .nilslice, _, h => by cases h; exact .nilslice
 | .own o, _, h => by
  cases h with
  | own _ _ ho hb hv => exact .own _ _ (hf o ho).1 ((hf o ho).2.trans hb) hv
 | .pown o, _, h => by
  cases h with
  | pown _ _ ps ho hb hv => exact .pown _ _ ps (hf o ho).1 ((hf o ho).2.trans hb) hv
 | .pe o i, _, h => by
  cases h with
  | pe _ _ b i0 n cp z ps ho hb hi => exact .pe _ _ b i0 n cp z ps (hf o ho).1 ((hf o ho).2.trans hb) hi
 | .pp o i, _, h => by
  cases h with
  | pp _ _ b sv ps ho hb hp => exact .pp _ _ b sv ps (hf o ho).1 ((hf o ho).2.trans hb) hp
 | .fz fts es cut, _, h => by
  cases h with
  | fz _ _ _ _ hrd hc => exact .fz _ _ _ _ (by rw [hK]; exact hrd) hc
 | .nn fts es, _, h => by
  cases h with
  | nn _ _ _ hrd hv => exact .nn _ _ _ (by rw [hK]; exact hrd) hv
 | .nilmap, _, h => by cases h; exact .nilmap
 | .map o, _, h => by
  cases h with
  | map _ b ho hb => exact .map _ b (hf o ho).1 ((hf o ho).2.trans hb)
 | .nilfunc, _, h => by cases h; exact .nilfunc
 | .func q, _, h => by cases h; exact .func q
 | .pz _ _, _, h => by
  cases h with
  | pz _ _ _ hrd => exact .pz _ _ _ (by rw [hK]; exact hrd)
 | .pn _ _ _, _, h => by
  cases h with
  | pn _ _ _ b hrd => exact .pn _ _ _ b (by rw [hK]; exact hrd)
 | .ifz _ _ _, _, h => by
  cases h with
  | ifz _ _ _ _ hrd => exact .ifz _ _ _ _ (by rw [hK]; exact hrd)
 | .niliface, _, h => by cases h; exact .niliface
 | .iface t u, _, h => by
  cases h with
  | iface _ _ v hv => exact .iface t _ v (RV.ren hf hK hv)
 | .agg us, _, h => by
  cases h with
  | agg _ vs hl hp => exact RV.agg' (RVs.rens hf hK ⟨hl, hp⟩)
 | .tuple us, _, h => by
  cases h with
  | tuple _ vs hl hp => exact RV.tuple' (RVs.rens hf hK ⟨hl, hp⟩)
theorem RVs.rens {c2 : Cx} {g : VG} {f : Nat → Nat} (hf : ∀ j, j < c2.n → f j < c.n ∧ c.ρ (f j) = c2.ρ j) (hK : c.K = c2.K) : ∀ {us : List UV} {vs : List VV}, RVs c2 g us vs → RVs c g (UV.rens f us) vs
 | [], vs, h => by
  have := h.1
  match vs, this with
  | [], _ => exact RVs.nil _ _
 | u :: us, vs, h => by
  have := h.1
  match vs, this, h with
  | v :: vs, _, h => exact RVs.cons (RV.ren hf hK h.head) (RVs.rens hf hK h.tail)
end
theorem rens_len (f : Nat → Nat) (us : List UV) : (UV.rens f us).length = us.length := by
 induction us with
 | nil => rfl
 | cons u us ih => simp [UV.rens, ih]
theorem RO.ren {c2 : Cx} {g : VG} {f : Nat → Nat} (hf : ∀ j, j < c2.n → f j < c.n ∧ c.ρ (f j) = c2.ρ j) (hK : c.K = c2.K) {u : UO} {v : VV} {fm : Nat → Prop} (hr : RO c2 g u v fm) : RO c g (u.ren f) v fm := by
 cases hr with
 | obj cs b k xs hg hes hz hro hso hx hr => exact .obj _ b k xs hg hes (by rw [rens_len]; exact hz) hro hso hx (hr.rens hf hK)
 | rowNil fts => exact .rowNil fts
 | rowCut fts b i z k hg hKf hz hz' h0 hi => exact .rowCut fts b i z k hg (by rw [hK]; exact hKf) hz hz' h0 hi
 | row fts es b i n cp z k hg hro hz hz' h0 hn hcp hs => exact .row fts es b i n cp z k hg hro hz hz' h0 hn hcp (by rw [hK]; exact hs)
 | old fts es v h => exact .old fts es v (by rw [hK]; exact h)
 | map kf ag fts es b ves hg hk hl h => exact .map kf ag fts es b ves hg hk hl (by rw [hK]; exact h)
 | poolNil fts => exact .poolNil fts
 | pool fts es x b i n cp z k ps fs hg hro hz hz' h0 hn hcp hin hc hff hE => exact .pool fts es x b i n cp z k ps fs hg hro hz hz' h0 hn hcp hin hc hff (by rw [hK]; exact hE)
 | lent v => exact .lent v
 | gone v hv => exact .gone v hv
theorem pushAll_len (f : Nat → Nat) (rest : USt) (s : USt) : (s.pushAll f rest).len = s.len + rest.len := by
 induction rest generalizing s with
 | nil => rfl
 | cons u us ih => simp only [USt.pushAll, ih, USt.len_push, USt.len]; omega
theorem pushAll_get (f : Nat → Nat) (rest : USt) (s : USt) (o : Nat) : (s.pushAll f rest).get o = if o < s.len then s.get o else (rest.get (o - s.len)).ren f := by
 induction rest generalizing s with
 | nil =>
  simp only [USt.pushAll, USt.get]
  split
  ·rfl
  ·exact USt.get_out s o (by omega)
 | cons u us ih =>
  simp only [USt.pushAll]
  rw [ih, USt.len_push]
  by_cases h1 : o < s.len
  ·rw [if_pos (by omega), if_pos h1, USt.get_push, if_neg (by omega)]
  ·by_cases h2 : o = s.len
   ·subst h2; rw [if_pos (by omega), if_neg (by omega), USt.get_push, if_pos rfl, Nat.sub_self]; rfl
   ·rw [if_neg (by omega), if_neg (by omega), show o - s.len = (o - (s.len + 1)) + 1 by omega]; rfl
theorem writeBack_get (f : Nat → Nat) : ∀ (ids : List Nat) (s st s2 : USt), writeBack f s ids st = some s2 → ids.Nodup → (∀ o ∈ ids, o < s.len) →
  ids.length ≤ st.len ∧ s2.len = s.len + (st.len - ids.length) ∧ (∀ o, o < s.len → o ∉ ids → s2.get o = s.get o) ∧ (∀ j o, ids[j]? = some o → s2.get o = (st.get j).ren f) ∧
  (∀ o, s.len ≤ o → s2.get o = (st.get (ids.length + (o - s.len))).ren f)
 | [], s, st, s2, h, _, _ => by
  simp only [writeBack, Option.some.injEq] at h; subst h
  refine ⟨Nat.zero_le _, by rw [pushAll_len]; simp, fun o ho _ => by rw [pushAll_get, if_pos ho], by simp, fun o ho => by rw [pushAll_get, if_neg (by omega)]; simp⟩
 | _ :: _, s, [], s2, h, _, _ => by simp [writeBack] at h
 | a :: ids, s, u :: us, s2, h, hnd, hlt => by
  simp only [writeBack] at h
  obtain ⟨hna, hnd⟩ := List.nodup_cons.1 hnd
  obtain ⟨h1, h2, h3, h4, h5⟩ := writeBack_get f ids _ us s2 h hnd (fun o ho => by rw [USt.len_upd]; exact hlt o (by simp [ho]))
  rw [USt.len_upd] at h2 h3 h5
  refine ⟨by simp [USt.len]; omega, by simp [USt.len]; omega, fun o ho hn => ?_, fun j o hj => ?_, fun o ho => ?_⟩
  ·simp only [List.mem_cons, not_or] at hn
   rw [h3 o ho hn.2, USt.get_upd, if_neg (fun hh => hn.1 hh.1)]
  ·cases j with
   | zero =>
    simp only [List.getElem?_cons_zero, Option.some.injEq] at hj; subst hj
    rw [h3 a (hlt a (by simp)) hna, USt.get_upd, if_pos ⟨rfl, hlt a (by simp)⟩]; rfl
   | succ j =>
    simp only [List.getElem?_cons_succ] at hj
    rw [h4 j o hj]; rfl
  ·rw [h5 o ho, List.length_cons, show ids.length + 1 + (o - s.len) = (ids.length + (o - s.len)) + 1 by omega]; rfl
end
end
end Go.Proofs.Ythlbahcggmbfaaa.V

namespace Go.Proofs.Ythlbahcggmbfaaa.V
section
variable {P : Program} {R : Type} {c : Cx} {h h' : VHeap} {s : USt} {ids : List Nat}
def Cx.back (c : Cx) (ids : List Nat) (c2 : Cx) : Cx :=
 ⟨c.n + (c2.n - ids.length), fun o => if o < c.n then c.ρ o else c2.ρ (ids.length + (o - c.n)), c2.K, fun o => match idx ids o with | some j => c2.φ j | none => if o < c.n then c.φ o else c2.φ (ids.length + (o - c.n))⟩
theorem idx_mem {l : List Nat} {o : Nat} (h : o ∈ l) : ∃ j, idx l o = some j := by
 induction l with
 | nil => cases h
 | cons a l ih =>
  simp only [idx]
  split
  ·exact ⟨0, rfl⟩
  ·rename_i hb
   rcases List.mem_cons.1 h with rfl | h
   ·rw [Nat.beq_refl] at hb; cases hb
   ·obtain ⟨j, hj⟩ := ih h; exact ⟨j + 1, by rw [hj]; rfl⟩
theorem idx_none {l : List Nat} {o : Nat} (h : idx l o = none) : o ∉ l := fun hm => by
 obtain ⟨j, hj⟩ := idx_mem hm; rw [hj] at h; cases h
theorem Cx.back_later (hs : RSt c h s) {c2 : Cx} {st : USt} (h2 : RSt c2 h' st) (hL : Later (c.pick ids) h c2 h' (c.pick ids).fams) (hid : ∀ o ∈ ids, o < c.n) : Later c h (c.back ids c2) h' (fun f => ∃ o, o ∈ ids ∧ c.φ o f) := by
 refine ⟨Nat.le_add_right _ _, fun o ho => ?_, hL.K, hL.next, fun b o hb hn => hL.same b o hb (fun ht => hn (Cx.pick_fams ht)), hL.fam, hL.mp, fun f hf => ?_, fun o f hf => ?_, fun o f ho hf => ?_⟩
 ·show (if o < c.n then _ else _) = _
  rw [if_pos ho]
 ·rcases hL.newK f hf with h3 | h3 | h3
  ·exact .inl h3
  ·exact .inr (.inl h3)
  ·obtain ⟨o, _, ho⟩ := Cx.pick_fams h3
   exact .inr (.inr ⟨o, ho⟩)
 ·have key : ∀ j, c2.φ j f → h.next ≤ f ∨ ∃ o, c.φ o f := fun j hj => by
   rcases hL.newφ j f hj with h3 | h3
   ·exact .inl h3
   ·obtain ⟨o, _, ho⟩ := Cx.pick_fams h3
    exact .inr ⟨o, ho⟩
  have hf : (match idx ids o with | some j => c2.φ j | none => if o < c.n then c.φ o else c2.φ (ids.length + (o - c.n))) f := hf
  cases hi : idx ids o with
  | some j => rw [hi] at hf; exact key _ hf
  | none =>
   rw [hi] at hf; simp only at hf
   split at hf
   ·exact .inr ⟨o, hf⟩
   ·exact key _ hf
 ·have hf : (match idx ids o with | some j => c2.φ j | none => if o < c.n then c.φ o else c2.φ (ids.length + (o - c.n))) f := hf
  cases hi : idx ids o with
  | some j =>
   rw [hi] at hf
   have hj := idx_some hi
   have := hL.oldφ j f (List.getElem?_eq_some_iff.1 hj).1 hf
   simpa only [Cx.pick, hj] using this
  | none => rw [hi] at hf; simp only at hf; rwa [if_pos ho] at hf
theorem back_rel (hs : RSt c h s) {c2 : Cx} {st s2 : USt} (h2 : RSt c2 h' st) (hL : Later (c.pick ids) h c2 h' (c.pick ids).fams) (hnd : ids.Nodup) (hid : ∀ o ∈ ids, o < c.n)
  (hw : writeBack (backTo ids s.len) s ids st = some s2) : RSt (c.back ids c2) h' s2 ∧ ∀ {u : UV} {v : VV}, RV c2 h'.get u v → RV (c.back ids c2) h'.get (u.ren (backTo ids s.len)) v := by
 obtain ⟨w1, w2, w3, w4, w5⟩ := writeBack_get _ ids s st s2 hw hnd (fun o ho => by rw [hs.len]; exact hid o ho)
 have hlat := Cx.back_later hs h2 hL hid
 have hTK : ∀ f, c.K f → ¬ (∃ o, o ∈ ids ∧ c.φ o f) := fun f hK ⟨o, _, ho⟩ => hs.ndK o f ho hK
 have hcn : ids.length ≤ c2.n := by rw [← h2.len]; exact w1
 have hf : ∀ j, j < c2.n → backTo ids s.len j < (c.back ids c2).n ∧ (c.back ids c2).ρ (backTo ids s.len j) = c2.ρ j := by
  intro j hj
  unfold backTo
  rw [lenN_eq]
  cases hb : Nat.ble ids.length j with
  | true =>
   have := Nat.le_of_ble_eq_true hb
   simp only
   rw [hs.len]
   refine ⟨by show c.n + (j - ids.length) < c.n + (c2.n - ids.length); omega, ?_⟩
   show (if c.n + (j - ids.length) < c.n then _ else c2.ρ (ids.length + (c.n + (j - ids.length) - c.n))) = _
   rw [if_neg (by omega), show ids.length + (c.n + (j - ids.length) - c.n) = j by omega]
  | false =>
   have hlt : j < ids.length := by
    rcases Nat.lt_or_ge j ids.length with h3 | h3
    ·exact h3
    ·rw [Nat.ble_eq_true_of_le h3] at hb; cases hb
   have hj' : ids[j]? = some ids[j] := List.getElem?_eq_getElem hlt
   simp only
   rw [nth_eq hj']
   have hm := hid _ (List.mem_of_getElem? hj')
   refine ⟨Nat.lt_of_lt_of_le hm (Nat.le_add_right _ _), ?_⟩
   show (if ids[j] < c.n then c.ρ ids[j] else _) = _
   rw [if_pos hm, hL.ρ j hlt, Cx.pick_ρ hj']
 have hK : (c.back ids c2).K = c2.K := rfl
 have phi : ∀ o, (c.back ids c2).φ o = match idx ids o with | some j => c2.φ j | none => if o < c.n then c.φ o else c2.φ (ids.length + (o - c.n)) := fun _ => rfl
 have small : ∀ j f, c2.φ j f → h.next ≤ f ∨ ∃ o, o ∈ ids ∧ c.φ o f := fun j f hj => by
  rcases hL.newφ j f hj with h3 | h3
  ·exact .inl h3
  ·exact .inr (Cx.pick_fams h3)
 
 have other : ∀ o f, o ∉ ids → c.φ o f → ∀ j, c2.φ j f → False := by
  intro o f hno ho j hj
  rcases small j f hj with h3 | ⟨p, hp, h3⟩
  ·have := hs.ltφ o f ho; omega
  ·exact hno (hs.dis o p f ho h3 ▸ hp)
 refine ⟨⟨h2.wf, ?_, fun o => ?_, fun o p f g1 g2 => ?_, fun o f g1 hKf => ?_, fun o f g1 => ?_, h2.ltK, fun o ho => ?_⟩, fun hr => hr.ren hf hK⟩
 ·rw [w2, hs.len, h2.len]; rfl
 ·rw [phi]
  cases hi : idx ids o with
  | some j =>
   have hj := idx_some hi
   have hm := hid o (List.mem_of_getElem? hj)
   rw [w4 j o hj]
   show RO _ _ _ (if o < c.n then c.ρ o else _) _
   rw [if_pos hm]
   have hr := (h2.obj j).ren hf hK
   rwa [hL.ρ j (List.getElem?_eq_some_iff.1 hj).1, Cx.pick_ρ hj] at hr
  | none =>
   have hno := idx_none hi
   simp only
   by_cases hlt : o < c.n
   ·rw [if_pos hlt, w3 o (by rw [hs.len]; exact hlt) hno]
    show RO _ _ _ (if o < c.n then c.ρ o else _) _
    rw [if_pos hlt]
    exact (hs.obj o).later hlat hTK (fun f hfo ⟨p, hp, h3⟩ => hno (hs.dis o p f hfo h3 ▸ hp))
   ·rw [if_neg hlt, w5 o (by rw [hs.len]; omega), show o - s.len = o - c.n by rw [hs.len]]
    show RO _ _ _ (if o < c.n then c.ρ o else _) _
    rw [if_neg hlt]
    exact (h2.obj _).ren hf hK
 ·rw [phi] at g1 g2
  cases hi : idx ids o with
  | some j =>
   rw [hi] at g1
   cases hk : idx ids p with
   | some k =>
    rw [hk] at g2
    have := h2.dis j k f g1 g2
    subst this
    have a := idx_some hi
    have b := idx_some hk
    rw [a] at b; simpa using b
   | none =>
    rw [hk] at g2
    simp only at g1 g2
    split at g2
    ·exact (other p f (idx_none hk) g2 j g1).elim
    ·have e := h2.dis j _ f g1 g2
     have a := (List.getElem?_eq_some_iff.1 (idx_some hi)).1
     omega
  | none =>
   rw [hi] at g1
   cases hk : idx ids p with
   | some k =>
    rw [hk] at g2
    simp only at g1 g2
    split at g1
    ·exact (other o f (idx_none hi) g1 k g2).elim
    ·have e := h2.dis _ k f g1 g2
     have a := (List.getElem?_eq_some_iff.1 (idx_some hk)).1
     omega
   | none =>
    rw [hk] at g2
    simp only at g1 g2
    split at g1 <;> split at g2
    ·exact hs.dis o p f g1 g2
    ·exact (other o f (idx_none hi) g1 _ g2).elim
    ·exact (other p f (idx_none hk) g2 _ g1).elim
    ·have e := h2.dis _ _ f g1 g2
     omega
 ·rw [phi] at g1
  split at g1
  ·exact h2.ndK _ f g1 hKf
  ·rename_i hi
   split at g1
   ·rcases hL.newK f hKf with h3 | h3 | h3
    ·exact hs.ndK o f g1 h3
    ·have := hs.ltφ o f g1; omega
    ·obtain ⟨p, hp, h4⟩ := Cx.pick_fams h3
     exact idx_none hi (hs.dis o p f g1 h4 ▸ hp)
   ·exact h2.ndK _ f g1 hKf
 ·rw [phi] at g1
  split at g1
  ·exact h2.ltφ _ f g1
  ·split at g1
   ·exact Nat.lt_of_lt_of_le (hs.ltφ o f g1) hL.next
   ·exact h2.ltφ _ f g1
 ·have ho : c.n + (c2.n - ids.length) ≤ o := ho
  show (if o < c.n then c.ρ o else c2.ρ (ids.length + (o - c.n))) = _
  rw [if_neg (by omega)]
  exact h2.und _ (by omega)
mutual
theorem scal_rel {c1 c2 : Cx} {g1 g2 : VG} : ∀ {u : UV} {v : VV}, RV c1 g1 u v → u.scal = true → RV c2 g2 u v
 | .bool b, _, h, _ => by cases h; exact .bool b
 | .int k n, _, h, _ => by cases h; exact .int k n
 | .str x, _, h, _ => by cases h; exact .str x
 | .nilptr, _, h, _ => by cases h; exact .nilptr
 | .nilslice, _, h, _ => by cases h; exact .nilslice
 | .nilmap, _, h, _ => by cases h; exact .nilmap
 | .nilfunc, _, h, _ => by cases h; exact .nilfunc
 | .niliface, _, h, _ => by cases h; exact .niliface
 | .iface t u, _, h, hs => by
  cases h with
  | iface _ _ v hv => exact .iface t _ v (scal_rel hv (by simpa [UV.scal] using hs))
 | .agg us, _, h, hs => by
  cases h with
  | agg _ vs hl hp => exact RV.agg' (scals_rel ⟨hl, hp⟩ (by simpa [UV.scal] using hs))
 | .tuple us, _, h, hs => by
  cases h with
  | tuple _ vs hl hp => exact RV.tuple' (scals_rel ⟨hl, hp⟩ (by simpa [UV.scal] using hs))
 | .undef, _, _, hs => by simp [UV.scal] at hs
 | .ptr _ _, _, _, hs => by simp [UV.scal] at hs
 | .eptr _ _ _, _, _, hs => by simp [UV.scal] at hs
 | .aptr _ _ _ _ _ _, _, _, hs => by simp [UV.scal] at hs
 | .fptr _ _ _ _, _, _, hs => by simp [UV.scal] at hs
 | .own _, _, _, hs => by simp [UV.scal] at hs
 | .fz _ _ _, _, _, hs => by simp [UV.scal] at hs
 | .nn _ _, _, _, hs => by simp [UV.scal] at hs
 | .map _, _, _, hs => by simp [UV.scal] at hs
 | .func _, _, _, hs => by simp [UV.scal] at hs
theorem scals_rel {c1 c2 : Cx} {g1 g2 : VG} : ∀ {us : List UV} {vs : List VV}, RVs c1 g1 us vs → UV.scals us = true → RVs c2 g2 us vs
 | [], vs, h, _ => by
  have := h.1
  match vs, this with
  | [], _ => exact RVs.nil _ _
 | u :: us, vs, h, hs => by
  have := h.1
  simp only [UV.scals, Bool.and_eq_true] at hs
  match vs, this, h with
  | v :: vs, _, h => exact RVs.cons (scal_rel h.head hs.1) (scals_rel h.tail hs.2)
end
theorem lend1_rel {c1 : Cx} (hs : RSt c h s) {u : UV} {v : VV} (hr : RV c h.get u v) (hL : Later c h c1 h (fun _ => False)) (hd : ∀ ft d, toD s ft u = some d → RD h.get c1.K ft d v) : RV c1 h.get (lend1 s u) v := by
 cases u with
 | own o =>
  simp only [lend1]
  split
  ·rename_i fts es hrow
   exact .fz fts es false v (hd (.row 0 fts) (.row es) (by simp only [toD, hrow, FT.sames_refl])) (fun e => by cases e)
  ·exact .undef _
 | _ => exact hr.later hL (fun _ _ h => h)
theorem lend_rel {args : List UV} {vargs : List VV} (hs : RSt c h s) (hr : RVs c h.get args vargs) :
  ∃ c1, RSt c1 h (freeze s (args.map ucells).flatten) ∧ Later c h c1 h (fun _ => False) ∧ c1.n = c.n ∧ c1.ρ = c.ρ ∧ (∀ p f, c1.φ p f → c.φ p f) ∧ RVs c1 h.get (args.map (lend s)) vargs := by
 obtain ⟨c1, s1, l1, n1, r1, p1, d1⟩ := freeze_pt hs (args.map ucells).flatten
 refine ⟨c1, s1, l1, n1, r1, p1, by rw [List.length_map]; exact hr.1, fun i u v hu hv => ?_⟩
 rw [List.getElem?_map] at hu
 cases ha : args[i]? with
 | none => rw [ha] at hu; cases hu
 | some a =>
  rw [ha] at hu
  simp only [Option.map_some, Option.some.injEq] at hu
  subst hu
  have hra := hr.2 i a v ha hv
  have mem : ∀ x, x ∈ ucells a → ∃ m, (args.map ucells).flatten[m]? = some x := fun x hx =>
   List.getElem?_of_mem (List.mem_flatten.2 ⟨ucells a, List.mem_map.2 ⟨a, List.mem_of_getElem? ha, rfl⟩, hx⟩)
  cases a with
  | agg cs =>
   cases hra with
   | agg _ vs hl hp =>
    show RV c1 h.get (.agg (cs.map (lend1 s))) (.agg vs)
    refine RV.agg' ⟨by rw [List.length_map]; exact hl, fun j x y hx hy => ?_⟩
    rw [List.getElem?_map] at hx
    cases hc : cs[j]? with
    | none => rw [hc] at hx; cases hx
    | some q =>
     rw [hc] at hx
     simp only [Option.map_some, Option.some.injEq] at hx
     subst hx
     have hq := hp j q y hc hy
     obtain ⟨m, hm⟩ := mem q (List.mem_of_getElem? hc)
     exact lend1_rel hs hq l1 (fun ft d hd => d1 m q y hm hq ft d hd)
  | _ =>
   obtain ⟨m, hm⟩ := mem _ (List.mem_cons_self ..)
   exact lend1_rel hs hra l1 (fun ft d hd => d1 m _ v hm hra ft d hd)
theorem allLt_iff {l : List Nat} {n : Nat} (h : allLt l n = true) : ∀ o ∈ l, o < n := by
 induction l with
 | nil => intro o ho; cases ho
 | cons a l ih =>
  simp only [allLt, Bool.and_eq_true] at h
  intro o ho
  rcases List.mem_cons.1 ho with rfl | ho
  ·have := Nat.le_of_ble_eq_true h.1; omega
  ·exact ih h.2 o ho
theorem utold_rel {f : FuncId} {own : Bool} {told : ToldF} (ht : Tells P f told) {args : List UV} {vargs : List VV} {K : UV → USt → Option R} {r : R} (hu : utold own told args s K = some r) (hs : RSt c h s) (hr : RVs c h.get args vargs) :
  VC P seatX f vargs h fun v h' => ∃ u s1 c1, RSt c1 h' s1 ∧ RV c1 h'.get u v ∧ Later c h c1 h' (fun f => ∃ o, o ∈ toldIds own args s ∧ c.φ o f) ∧ K u s1 = some r := by
 unfold utold at hu
 simp only at hu
 split at hu
 ·rename_i hok
  simp only [Bool.and_eq_true] at hok
  have hnd := nodupN_iff hok.1
  have hlt := allLt_iff hok.2
  generalize hids : toldIds own args s = ids at hu hnd hlt ⊢
  
  have hlend : ∃ c1, RSt c1 h (freeze s (toldCells own args)) ∧ Later c h c1 h (fun _ => False) ∧ c1.n = c.n ∧ c1.ρ = c.ρ ∧ (∀ p f, c1.φ p f → c.φ p f) ∧ RVs c1 h.get (toldArgs own args s) vargs := by
   cases own with
   | true => exact ⟨c, hs, Later.refl _ _ _, rfl, rfl, fun _ _ h => h, hr⟩
   | false => exact lend_rel hs hr
  obtain ⟨c1, s1, l1, n1, r1, p1, a1⟩ := hlend
  have hlt1 : ∀ o ∈ ids, o < c1.n := fun o ho => by rw [n1, ← hs.len]; exact hlt o ho
  have hpick := s1.pick hnd
  obtain ⟨k, v, h', hrun, u, st, c2, q1, q2, q3, q4⟩ := ht R _ _ _ r hu (c1.pick ids) h vargs hpick a1.picks
  refine ⟨k, v, h', hrun, ?_⟩
  have hTsub : ∀ f, (∃ o, o ∈ ids ∧ c1.φ o f) → h.next ≤ f ∨ ∃ o, o ∈ ids ∧ c.φ o f := fun f ⟨o, ho, hf⟩ => .inr ⟨o, ho, p1 o f hf⟩
  split at q4
  · 
   rename_i hsc
   simp only [Bool.and_eq_true] at hsc
   have hnil : ids = [] := by cases ids with | nil => rfl | cons _ _ => cases hsc.1
   subst hnil
   have hH : HStep h h' (fun _ => False) := ⟨q3.next, fun b o hb _ => q3.same b o hb (fun ⟨j, hj⟩ => by simp [Cx.pick] at hj; exact hj), q3.fam, q3.mp⟩
   have hL := hH.later c
   refine ⟨u, s, c, ⟨q1.wf, hs.len, fun o => (hs.obj o).later hL (fun _ _ h => h) (fun _ _ h => h), hs.dis, hs.ndK, fun o f hf => Nat.lt_of_lt_of_le (hs.ltφ o f hf) hL.next, fun f hf => Nat.lt_of_lt_of_le (hs.ltK f hf) hL.next, hs.und⟩,
    scal_rel q2 hsc.2, hL.mono (fun _ h => h.elim), q4⟩
  ·split at q4
   ·rename_i s2 hw
    have hlen : (freeze s (toldCells own args)).len = s.len := freeze_len _ _
    rw [← hlen] at hw q4
    obtain ⟨b1, b2⟩ := back_rel s1 q1 q3 hnd hlt1 hw
    have hlat := Cx.back_later s1 q1 q3 hlt1
    exact ⟨_, s2, _, b1, b2 q2, (l1.mono (fun _ h => h.elim)).trans hlat hs.wf hTsub, q4⟩
   ·cases q4
 ·cases hu
theorem utold_own {f : FuncId} {told : ToldF} (ht : Tells P f told) {args : List UV} {vargs : List VV} {K : UV → USt → Option R} {r : R} (hu : utold true told args s K = some r) (hs : RSt c h s) (hr : RVs c h.get args vargs) :
  VC P seatX f vargs h fun v h' => ∃ u s1 c1, RSt c1 h' s1 ∧ RV c1 h'.get u v ∧ Later c h c1 h' (fun f => ∃ o, o ∈ toldIds true args s ∧ c.φ o f) ∧ (∀ o, o < s.len → o ∉ toldIds true args s → s1.get o = s.get o) ∧ K u s1 = some r := by
 unfold utold at hu
 simp only at hu
 split at hu
 ·rename_i hok
  simp only [Bool.and_eq_true] at hok
  have hnd := nodupN_iff hok.1
  have hlt := allLt_iff hok.2
  generalize hids : toldIds true args s = ids at hu hnd hlt ⊢
  
  obtain ⟨c1, s1, l1, n1, r1, p1, a1⟩ := (⟨c, hs, Later.refl _ _ _, rfl, rfl, fun _ _ h => h, hr⟩ : ∃ c1, RSt c1 h s ∧ Later c h c1 h (fun _ => False) ∧ c1.n = c.n ∧ c1.ρ = c.ρ ∧ (∀ p f, c1.φ p f → c.φ p f) ∧ RVs c1 h.get args vargs)
  have hlt1 : ∀ o ∈ ids, o < c1.n := fun o ho => by rw [n1, ← hs.len]; exact hlt o ho
  have hpick := s1.pick hnd
  obtain ⟨k, v, h', hrun, u, st, c2, q1, q2, q3, q4⟩ := ht R _ _ _ r hu (c1.pick ids) h vargs hpick a1.picks
  refine ⟨k, v, h', hrun, ?_⟩
  have hTsub : ∀ f, (∃ o, o ∈ ids ∧ c1.φ o f) → h.next ≤ f ∨ ∃ o, o ∈ ids ∧ c.φ o f := fun f ⟨o, ho, hf⟩ => .inr ⟨o, ho, p1 o f hf⟩
  split at q4
  · 
   rename_i hsc
   simp only [Bool.and_eq_true] at hsc
   have hnil : ids = [] := by cases ids with | nil => rfl | cons _ _ => cases hsc.1
   subst hnil
   have hH : HStep h h' (fun _ => False) := ⟨q3.next, fun b o hb _ => q3.same b o hb (fun ⟨j, hj⟩ => by simp [Cx.pick] at hj; exact hj), q3.fam, q3.mp⟩
   have hL := hH.later c
   refine ⟨u, s, c, ⟨q1.wf, hs.len, fun o => (hs.obj o).later hL (fun _ _ h => h) (fun _ _ h => h), hs.dis, hs.ndK, fun o f hf => Nat.lt_of_lt_of_le (hs.ltφ o f hf) hL.next, fun f hf => Nat.lt_of_lt_of_le (hs.ltK f hf) hL.next, hs.und⟩,
    scal_rel q2 hsc.2, hL.mono (fun _ h => h.elim), fun _ _ _ => rfl, q4⟩
  ·split at q4
   ·rename_i s2 hw
    obtain ⟨w1, w2, w3, w4, w5⟩ := writeBack_get _ ids s st s2 hw hnd hlt
    obtain ⟨b1, b2⟩ := back_rel s1 q1 q3 hnd hlt1 hw
    have hlat := Cx.back_later s1 q1 q3 hlt1
    exact ⟨_, s2, _, b1, b2 q2, (l1.mono (fun _ h => h.elim)).trans hlat hs.wf hTsub, w3, q4⟩
   ·cases q4
 ·cases hu
end
end Go.Proofs.Ythlbahcggmbfaaa.V

namespace Go.Proofs.Ythlbahcggmbfaaa.V
section
variable {P : Program} {X : Ext}
theorem vc_wo {o : Oper} {c : Call} (ho : o.op = .call c) {name : String} {rr : Operand} (hc : c.callee = .invoke rr name) {t : TypeId} {v : VV} {e : Env} {h : VHeap} (hf : ev e rr = .iface t v) {g : FuncId} (hm : vmethod P t name = some g) (hp : plainFunc P g = true) {Q : VV → VHeap → Prop}
  (hw : VC P X g (v :: argsOf e c.args) h Q) : WO P X o e h Q := by
 obtain ⟨k, w, h1, r1, q1⟩ := hw
 refine ⟨k, w, h1, ?_, q1⟩
 obtain ⟨dst, op, ty, pos, after, guard⟩ := o
 simp only at ho
 subst ho
 show vcall P _ c e h = _
 unfold vcall
 rw [hc]
 simp only [hf, hm, hp, if_true]
 exact r1
theorem WD.nil {ops : Array Oper} {bef : Array Nat} {i : Nat} {e : Env} {h : VHeap} {rs : List (Nat × Oper × Env × VV)} {es : List (Nat × VHeap)} {Q : Env → VHeap → Prop} (hq : Q e h) : WD P X ops bef i [] e h rs es Q := ⟨0, e, h, by simp [vdraw], hq⟩
theorem WD.skip {ops : Array Oper} {bef : Array Nat} {i : Nat} {o : Oper} {l : List Oper} {e : Env} {h : VHeap} {rs : List (Nat × Oper × Env × VV)} {es : List (Nat × VHeap)} {Q : Env → VHeap → Prop} (hg : wantedV ops o e = some false)
  (hw : WD P X ops bef (i + 1) l (e.put o.dst skipped) h rs es Q) : WD P X ops bef i (o :: l) e h rs es Q := by
 obtain ⟨k, e1, h1, r1, q1⟩ := hw
 exact ⟨k, e1, h1, by unfold vdraw; simp only [hg, r1], q1⟩
theorem WD.cons {ops : Array Oper} {bef : Array Nat} {i : Nat} {o : Oper} {l : List Oper} {e : Env} {h : VHeap} {rs : List (Nat × Oper × Env × VV)} {es : List (Nat × VHeap)} {Q : Env → VHeap → Prop} (hg : wantedV ops o e = some true)
  (hw : WO P X o e h fun v h' =>
   (kindOf P o = .read → (es.all fun (j, hb) => (bef.getD i 0).testBit j || readAt P o e v hb) = true) ∧ (kindOf P o = .eff → (rs.all fun (j, p, d, u) => (bef.getD i 0).testBit j || readAt P p d u h') = true) ∧
   WD P X ops bef (i + 1) l (e.put o.dst v) h' (match kindOf P o with | .read => (i, o, e, v) :: rs | _ => rs) (match kindOf P o with | .eff => (i, h) :: es | _ => es) Q) : WD P X ops bef i (o :: l) e h rs es Q := by
 obtain ⟨k, v, h1, r1, c1, c2, j, e2, h2, r2, q2⟩ := hw
 refine ⟨max k j, e2, h2, ?_, q2⟩
 unfold vdraw
 simp only [hg, vop_mono (caller_le (Nat.le_max_left k j)) r1]
 have r2' := vdraw_mono (caller_le (P := P) (X := X) (Nat.le_max_right k j)) r2
 cases hk : kindOf P o with
 | read => simp only [hk] at c1 r2' ⊢; rw [if_pos (c1 trivial)]; exact r2'
 | eff => simp only [hk] at c2 r2' ⊢; rw [if_pos (c2 trivial)]; exact r2'
 | pure => simp only [hk] at r2' ⊢; exact r2'
 | alloc => simp only [hk] at r2' ⊢; exact r2'
end
def SoundF' (P : Program) (F : FuncId → Option (Bool × ToldF)) : Prop := ∀ f own told, F f = some (own, told) → Tells P f told
def SoundPc (P : Program) (m : Nat) (body : Code) (Pc : Nat → Option ToldP) : Prop := ∀ p told, Pc p = some told → ∀ b, codeAt body p = some b → SoundP P m b told
theorem SoundPc.none (P : Program) (m : Nat) (body : Code) : SoundPc P m body (fun _ => none) := fun _ _ h => by cases h
section
variable {P : Program} {R : Type} {c : Cx} {h : VHeap} {s : USt}
theorem uinvoke_rel {call : FuncId → List UV → USt → (UV → USt → Option R) → Option R} {name : String} {args : List UV} {K : UV → USt → Option R} {r : R} {t : Nat} {d : D} :
  ∀ {ts : List Nat} {fts : List FT} {ft : FT}, lookT ts fts t = some ft → uinvoke P call name args (.row [[.int t, d]]) s K ts fts = some r → ∃ g, vmethod P t name = some g ∧ plainFunc P g = true ∧ call g (ofD ft d :: args) s K = some r
 | [], _, _, h, _ => by simp [lookT] at h
 | _ :: _, [], _, h, _ => by simp [lookT] at h
 | a :: ts, f :: fts, ft, h, hu => by
  unfold uinvoke at hu
  simp only [lookT] at h
  by_cases ha : a = t
  ·subst ha
   rw [Nat.beq_refl] at h
   simp only [Option.some.injEq] at h; subst h
   simp only [tagIs, decide_true, cond_true] at hu
   split at hu
   ·rename_i g hm
    split at hu
    ·rename_i hp; exact ⟨g, hm, hp, hu⟩
    ·cases hu
   ·cases hu
  ·have hb : Nat.beq a t = false := by
    cases hb : Nat.beq a t with
    | false => rfl
    | true => exact absurd (Nat.eq_of_beq_eq_true hb) ha
   rw [hb] at h
   have ht : tagIs a (.row [[.int t, d]]) = false := by simp only [tagIs]; exact decide_eq_false (by omega)
   rw [ht, cond_false] at hu
   exact uinvoke_rel h hu
theorem uinvoke_nil {call : FuncId → List UV → USt → (UV → USt → Option R) → Option R} {name : String} {args : List UV} {K : UV → USt → Option R} :
  ∀ (ts : List Nat) (fts : List FT), uinvoke P call name args .nil s K ts fts = none
 | [], _ => rfl
 | _ :: _, [] => rfl
 | a :: ts, f :: fts => by
  unfold uinvoke
  simp only [tagIs, cond_false]
  exact uinvoke_nil ts fts
theorem rangeN_all : ∀ {n o : Nat}, o < n → o ∈ rangeN n
 | n + 1, o, h => by
  simp only [rangeN, List.mem_cons]
  by_cases ho : o = n
  ·exact .inl ho
  ·exact .inr (rangeN_all (by omega))
def touchT (P : Program) (T : Known) (c : Cx) (o : Oper) (e : UEnv) (s : USt) (f : Nat) : Prop := ∃ p, p ∈ stepTouch P T o e s ∧ c.φ p f
theorem ustep_rel {T : Known} {call : FuncId → List UV → USt → (UV → USt → Option R) → Option R}
  (hcall : ∀ g args s (K : UV → USt → Option R) r, call g args s K = some r → ∀ (c : Cx) (h : VHeap) vargs, RSt c h s → RVs c h.get args vargs →
   VC P seatX g vargs h fun v h' => ∃ u s1 c1, RSt c1 h' s1 ∧ RV c1 h'.get u v ∧ Later c h c1 h' (fun f => ∃ o, o ∈ callTouch T g args s ∧ c.φ o f) ∧ K u s1 = some r)
  (hs : RSt c h s) {o : Oper} {e : UEnv} {e' : Env} (he : REnv c h.get e e') {K : UV → USt → Option R} {r : R} (hu : ustep P call o e s K = some r) :
  WO P seatX o e' h fun v h' => ∃ u s1 c1, RSt c1 h' s1 ∧ RV c1 h'.get u v ∧ Later c h c1 h' (touchT P T c o e s) ∧ K u s1 = some r := by
 have plain : uopP P o e s K = some r → stepTouch P T o e s = touchesP o e → WO P seatX o e' h fun v h' => ∃ u s1 c1, RSt c1 h' s1 ∧ RV c1 h'.get u v ∧ Later c h c1 h' (touchT P T c o e s) ∧ K u s1 = some r := by
  intro hu ht
  obtain ⟨v, h', u, s1, c1, e1, e2, e3, e4, e5⟩ := uopP_rel (T := touchT P T c o e s) hs he hu (fun p f hp hf => ⟨p, by rw [ht]; exact hp, hf⟩)
  exact WO.of e1 ⟨u, s1, c1, e2, e3, e4, e5⟩
 unfold ustep at hu
 split at hu
 ·rename_i cl hop
  split at hu
  ·rename_i b hb
   exact plain hu (by simp only [stepTouch, hop, hb])
  ·rename_i f hf
   split at hu
   ·rename_i g hg
    have hr := uev_rel he f
    rw [hg] at hr
    split at hu
    ·rename_i hp
     have hst : stepTouch P T o e s = callTouch T g (uargs e cl.args) s := by simp only [stepTouch, hop, hf, hg]
     generalize hv : ev e' f = v at hr
     cases hr
     refine WO.call hop hf hv hp ?_
     simp only [List.nil_append, List.append_nil]
     refine (hcall g _ s K r hu c h _ hs (uargs_rel he cl.args)).mono ?_
     rintro v h' ⟨u, s1, c1, q1, q2, q3, q4⟩
     exact ⟨u, s1, c1, q1, q2, q3.mono (fun f hf => by unfold touchT; rw [hst]; exact hf), q4⟩
    ·cases hu
   ·cases hu
  ·rename_i rr name hc
   split at hu
   ·rename_i t v hv
    have hr := uev_rel he rr
    rw [hv] at hr
    split at hu
    ·rename_i g hm
     split at hu
     ·rename_i hp
      have hst : stepTouch P T o e s = callTouch T g (v :: uargs e cl.args) s := by simp only [stepTouch, hop, hc, hv, hm]
      generalize hv' : ev e' rr = v' at hr
      cases hr with
      | iface _ _ w hw =>
       refine vc_wo hop hc hv' hm hp ?_
       refine (hcall g _ s K r hu c h _ hs (RVs.cons hw (uargs_rel he cl.args))).mono ?_
       rintro v h' ⟨u, s1, c1, q1, q2, q3, q4⟩
       exact ⟨u, s1, c1, q1, q2, q3.mono (fun f hf => by unfold touchT; rw [hst]; exact hf), q4⟩
     ·cases hu
    ·cases hu
   ·rename_i ts fts d hv
    have hr := uev_rel he rr
    rw [hv] at hr
    generalize hv' : ev e' rr = v' at hr
    cases hr with
    | ifz _ _ _ _ hrd =>
     cases hrd with
     | inil => rw [uinvoke_nil] at hu; cases hu
     | ifc _ _ t ft d' w hl hw =>
      obtain ⟨g, hm, hp, hk⟩ := uinvoke_rel hl hu
      have hst : stepTouch P T o e s = rangeN s.len := by simp only [stepTouch, hop, hc, hv]
      refine vc_wo hop hc hv' hm hp ?_
      refine (hcall g _ s K r hk c h _ hs (RVs.cons (ofD_rel hw) (uargs_rel he cl.args))).mono ?_
      rintro v h' ⟨u, s1, c1, q1, q2, q3, q4⟩
      refine ⟨u, s1, c1, q1, q2, q3.mono (fun f ⟨o2, _, hf⟩ => ?_), q4⟩
      unfold touchT; rw [hst]
      refine ⟨o2, rangeN_all ?_, hf⟩
      rcases Nat.lt_or_ge o2 s.len with h1 | h1
      ·exact h1
      ·rw [hs.out (by rw [← hs.len]; exact h1)] at hf; cases hf
   ·cases hu
 ·rename_i hnc
  exact plain hu (by
   unfold stepTouch
   split
   ·rename_i cl hop; exact absurd hop (hnc cl)
   ·rfl)
theorem wanted_none' {ops : Array Oper} {o : Oper} {e : Env} (h : o.guard = none) : wantedV ops o e = some true := by unfold wantedV; rw [h]
theorem guard_rel {ops : Array Oper} {o : Oper} {j : Nat} {want : Bool} (hg : o.guard = some (j, want)) {t : Tmp} (ht : guardTmp ops j = some t) {e : UEnv} {e' : Env} {g : VG} (he : REnv c g e e') :
  (∀ p, e.get t = .bool p → wantedV ops o e' = some (p == want) ∧ REnv c g (e.set t (.bool p)) e') ∧ (e.get t = .tuple [] → wantedV ops o e' = some false) := by
 have ht : (ops[j]?).bind (·.dst) = some t := ht
 constructor
 ·intro p hp
  have hr := he t
  rw [hp] at hr
  generalize hv : Env.get e' t = v at hr
  cases hr
  refine ⟨by simp only [wantedV, hg, yieldedV, ht, hv], fun q => ?_⟩
  rw [UEnv.get_set]
  split
  ·rename_i hq; subst hq; rw [hv]; exact .bool p
  ·exact he q
 ·intro hp
  have hr := he t
  rw [hp] at hr
  generalize hv : Env.get e' t = v at hr
  cases hr with
  | tuple _ vs hl hpp =>
   have : vs = [] := List.eq_nil_of_length_eq_zero hl.symm
   subst this
   simp only [wantedV, hg, yieldedV, ht, hv]
theorem skip_rel (c : Cx) (g : VG) : RV c g uskip skipped := RV.tuple' (RVs.nil c g)
theorem uops_rel {T : Known} {call : FuncId → List UV → USt → (UV → USt → Option R) → Option R}
  (hcall : ∀ g args s (K : UV → USt → Option R) r, call g args s K = some r → ∀ (c : Cx) (h : VHeap) vargs, RSt c h s → RVs c h.get args vargs →
   VC P seatX g vargs h fun v h' => ∃ u s1 c1, RSt c1 h' s1 ∧ RV c1 h'.get u v ∧ Later c h c1 h' (fun f => ∃ o, o ∈ callTouch T g args s ∧ c.φ o f) ∧ K u s1 = some r)
  {ops : Array Oper} : ∀ (l : List Oper) (e : UEnv) (s : USt) (K : UEnv → USt → Option R) (r : R), uops P call ops l e s K = some r → ∀ (c : Cx) (h : VHeap) (e' : Env), RSt c h s → REnv c h.get e e' →
   WS P seatX ops l e' h fun e1 h1 => ∃ u1 s1 c1, RSt c1 h1 s1 ∧ REnv c1 h1.get u1 e1 ∧ Later c h c1 h1 c.fams ∧ K u1 s1 = some r
 | [], e, s, K, r, hu, c, h, e', hs, he => WS.nil ⟨e, s, c, hs, he, Later.refl _ _ _, hu⟩
 | o :: l, e, s, K, r, hu, c, h, e', hs, he => by
  have run : ∀ (e0 : UEnv), REnv c h.get e0 e' → wantedV ops o e' = some true → (ustep P call o e0 s fun v s => uops P call ops l (e0.put o.dst v) s K) = some r → WS P seatX ops (o :: l) e' h fun e1 h1 => ∃ u1 s1 c1, RSt c1 h1 s1 ∧ REnv c1 h1.get u1 e1 ∧ Later c h c1 h1 c.fams ∧ K u1 s1 = some r := by
   intro e0 he0 hw hu
   refine WS.cons hw ?_
   obtain ⟨k, v, h', e1, u, s1, c1, q1, q2, q3, q4⟩ := ustep_rel hcall hs he0 hu
   refine ⟨k, v, h', e1, ?_⟩
   have hT : ∀ f, c.K f → ¬ touchT P T c o e0 s f := fun f hK ⟨p, _, hp⟩ => hs.ndK p f hp hK
   have hL : Later c h c1 h' c.fams := q3.mono (fun f ⟨p, _, hp⟩ => ⟨p, hp⟩)
   obtain ⟨k2, e2, h2, e3, u2, s2, c2, p1, p2, p3, p4⟩ := uops_rel hcall l _ s1 K r q4 c1 h' _ q1 ((he0.later q3 hT).put q2 o.dst)
   exact ⟨k2, e2, h2, e3, u2, s2, c2, p1, p2, hL.trans' p3 hs.wf, p4⟩
  have skip : ∀ (e0 : UEnv), REnv c h.get e0 e' → wantedV ops o e' = some false → uops P call ops l (e0.put o.dst uskip) s K = some r → WS P seatX ops (o :: l) e' h fun e1 h1 => ∃ u1 s1 c1, RSt c1 h1 s1 ∧ REnv c1 h1.get u1 e1 ∧ Later c h c1 h1 c.fams ∧ K u1 s1 = some r := by
   intro e0 he0 hw hu
   exact WS.skip hw (uops_rel hcall l _ s K r hu c h _ hs (he0.put (skip_rel c h.get) o.dst))
  unfold uops at hu
  split at hu
  ·rename_i hg
   exact run e he (wanted_none' hg) hu
  ·rename_i j want hg
   split at hu
   ·cases hu
   ·rename_i t ht
    obtain ⟨g1, g2⟩ := guard_rel hg ht he
    split at hu
    ·rename_i p hp
     obtain ⟨w1, w2⟩ := g1 p hp
     cases p with
     | true =>
      simp only [cond_true] at hu
      cases want with
      | true => exact run _ w2 w1 hu
      | false => exact skip _ w2 w1 hu
     | false =>
      simp only [cond_false] at hu
      cases want with
      | true => exact skip _ w2 w1 hu
      | false => exact run _ w2 w1 hu
    ·rename_i hp
     exact skip e he (g2 hp) hu
    ·cases hu
theorem codeWay_acc : ∀ (k p : Nat) (acc : List Bool), codeWay k p acc = codeWay k p [] ++ acc
 | 0, p, acc => rfl
 | k + 1, p, acc => by
  simp only [codeWay]
  split
  ·rfl
  ·rw [codeWay_acc k _ (_ :: acc), codeWay_acc k _ [_], List.append_assoc]; rfl
theorem codeWay_fuel : ∀ (k j p : Nat), p ≤ k → p ≤ j → codeWay k p [] = codeWay j p []
 | 0, j, p, hk, _ => by
  have : p = 0 := by omega
  subst this
  cases j with
  | zero => rfl
  | succ j => simp [codeWay, Nat.ble]
 | k + 1, 0, p, _, hj => by
  have : p = 0 := by omega
  subst this
  simp [codeWay, Nat.ble]
 | k + 1, j + 1, p, hk, hj => by
  simp only [codeWay]
  split
  ·rfl
  ·rename_i hb
   have hp : ¬ p ≤ 1 := fun h => by rw [Nat.ble_eq_true_of_le h] at hb; cases hb
   rw [codeWay_acc k, codeWay_acc j, codeWay_fuel k j (p / 2) (by omega) (by omega)]
theorem codeWay_step (p : Nat) (hp : 1 ≤ p) (b : Bool) : codeWay (2 * p + b.toNat) (2 * p + b.toNat) [] = codeWay p p [] ++ [b] := by
 obtain ⟨k, hk⟩ : ∃ k, 2 * p + b.toNat = k + 1 := ⟨2 * p + b.toNat - 1, by omega⟩
 have hb1 : b.toNat ≤ 1 := by cases b <;> simp
 rw [hk]
 simp only [codeWay]
 have hne : Nat.ble (k + 1) 1 = false := ble_false (by omega)
 rw [hne]
 simp only
 have h2 : (k + 1) / 2 = p := by omega
 have h3 : Nat.beq ((k + 1) % 2) 1 = b := by
  cases b with
  | true => rw [show (k + 1) % 2 = 1 by simp at hk; omega]; rfl
  | false => rw [show (k + 1) % 2 = 0 by simp at hk; omega]; rfl
 rw [h2, h3, codeWay_acc, codeWay_fuel k p p (by omega) (Nat.le_refl _)]
theorem codeGo_append : ∀ (l m : List Bool) (c : Code), codeGo c (l ++ m) = (codeGo c l).bind fun d => codeGo d m
 | [], m, c => rfl
 | b :: l, m, c => by
  simp only [List.cons_append, codeGo]
  cases codeSub c b with
  | none => rfl
  | some d => exact codeGo_append l m d
theorem codeAt_step {c d d' : Code} {p : Nat} (hp : 1 ≤ p) (h : codeAt c p = some d) (b : Bool) (hd : codeSub d b = some d') : codeAt c (2 * p + b.toNat) = some d' := by
 unfold codeAt at h ⊢
 rw [codeWay_step p hp b, codeGo_append, h]
 simp only [Option.bind_some, codeGo, hd]
end
end Go.Proofs.Ythlbahcggmbfaaa.V

namespace Go.Proofs.Ythlbahcggmbfaaa.V
section
variable {P : Program} {R : Type} {c c1 : Cx} {h h1 : VHeap} {s : USt}
def Stays (P : Program) (c : Cx) (h : VHeap) (src : Src) (p : Oper) (d : Env) (u : VV) : Prop :=
 match src with
 | .var o => ∃ b k, h.get b = some (.cells k) ∧ (∀ h2 : VHeap, h2.get b = some (.cells k) → readAt P p d u h2 = true) ∧ o < c.n ∧ c.ρ o = .ptr b 0 0 ∧ c.φ o k.fam
 | .row o => ∃ b k i n cp z, h.get b = some (.cells k) ∧ (∀ h2 : VHeap, h2.get b = some (.cells k) → readAt P p d u h2 = true) ∧ o < c.n ∧ c.ρ o = .slice b i n cp z ∧ c.φ o k.fam
 | .data => ∃ b k, h.get b = some (.cells k) ∧ (∀ h2 : VHeap, h2.get b = some (.cells k) → readAt P p d u h2 = true) ∧ c.K k.fam
 | .other => True
def RInv (P : Program) (c : Cx) (h : VHeap) : List RLog → List (Nat × Oper × Env × VV) → Prop
 | [], [] => True
 | l :: ls, (i, p, d, u) :: rs => l.at_ = i ∧ (l.stale = false → Stays P c h l.src.log p d u) ∧ RInv P c h ls rs
 | _, _ => False
def EInv (c : Cx) (h : VHeap) : List ELog → List (Nat × VHeap) → List Nat → Prop
 | [], [], _ => True
 | l :: ls, (j, hb) :: es, acc => l.at_ = j ∧ l.n ≤ c.n ∧ (∀ o b k, o < l.n → hasN (l.touched ++ acc) o = false → c.ρ o = .ptr b 0 0 → c.φ o k.fam → h.get b = some (.cells k) → hb.get b = some (.cells k)) ∧
   (∀ o b i n cp z k, o < l.n → hasN (l.touched ++ acc) o = false → c.ρ o = .slice b i n cp z → c.φ o k.fam → h.get b = some (.cells k) → hb.get b = some (.cells k)) ∧ EInv c h ls es (l.touched ++ acc)
 | _, _, _ => False
theorem lentOK_get {t : List Nat} : ∀ {i : Nat} {s s' : USt}, lentOK t i s s' = true → ∀ o, o < s.len → s'.get o = .lent → s.get o = .lent ∨ hasN t (i + o) = true
 | _, [], _, _, o, ho, _ => by simp [USt.len] at ho
 | _, _ :: _, [], _, o, _, hl => by simp [USt.get] at hl
 | i, u :: s, v :: s', h, o, ho, hl => by
  simp only [lentOK, Bool.and_eq_true] at h
  cases o with
  | zero =>
   have hl : v = .lent := hl
   subst hl
   have h1 := h.1
   cases u with
   | lent => exact .inl rfl
   | _ => exact .inr h1
  | succ o =>
   have := lentOK_get h.2 o (by simpa [USt.len] using ho) hl
   rwa [show i + 1 + o = i + (o + 1) by omega] at this
theorem var_obj (hs : RSt c h s) {o b : Nat} (hb : c.ρ o = .ptr b 0 0) (hl : s.get o ≠ .lent) : ∃ k, h.get b = some (.cells k) ∧ c.φ o = one k.fam := by
 have hro := hs.obj o
 rw [hb] at hro
 generalize hfm : c.φ o = fm at hro
 generalize hu : s.get o = u at hro hl
 cases hro with
 | obj cs b k xs hg hes hz hro hso hx hr => exact ⟨k, hg, rfl⟩
 | old fts es v h => cases h
 | lent => exact absurd rfl hl
 | gone v hv => exact absurd rfl (hv b 0 0)
theorem fam_live (hs : RSt c h s) {o f : Nat} (hf : c.φ o f) : s.get o ≠ .lent := by
 intro e
 have hro := hs.obj o
 rw [e] at hro
 generalize hfm : c.φ o = fm at hro
 cases hro
 exact notOne hfm hf
theorem hasN_append {a b : List Nat} {o : Nat} : hasN (a ++ b) o = false ↔ hasN a o = false ∧ hasN b o = false := by
 induction a with
 | nil => simp [hasN]
 | cons x a ih =>
  simp only [List.cons_append, hasN, Bool.or_eq_false_iff, ih]
  constructor
  ·rintro ⟨h1, h2, h3⟩; exact ⟨⟨h1, h2⟩, h3⟩
  ·rintro ⟨⟨h1, h2⟩, h3⟩; exact ⟨h1, h2, h3⟩
theorem var_same (hs : RSt c h s) {T : Nat → Prop} (hL : Later c h c1 h1 T) {t : List Nat} (hT : ∀ f, T f → ∃ p, p ∈ t ∧ c.φ p f) {o b : Nat} {k : Blk} (hlt : o < c.n) (ho : hasN t o = false) (hb : c1.ρ o = .ptr b 0 0) (hf : c1.φ o k.fam) (hg : h1.get b = some (.cells k)) :
  c.ρ o = .ptr b 0 0 ∧ c.φ o k.fam ∧ h.get b = some (.cells k) := by
 have h1' : c.ρ o = .ptr b 0 0 := by rw [← hL.ρ o hlt]; exact hb
 have h2 := hL.oldφ o _ hlt hf
 refine ⟨h1', h2, ?_⟩
 obtain ⟨k0, g1, g2⟩ := var_obj hs h1' (fam_live hs h2)
 have : h1.get b = some (.cells k0) := hL.same b _ g1 (fun ht => by
  obtain ⟨p, hp, hpf⟩ := hT _ ht
  have := hs.dis o p _ (isOne g2) hpf
  subst this
  rw [hasN_iff.2 hp] at ho; cases ho)
 rw [hg] at this
 simp only [Option.some.injEq, VObj.cells.injEq] at this
 rw [this]; exact g1
theorem var_on (hs : RSt c h s) {T : Nat → Prop} (hL : Later c h c1 h1 T) {s1 : USt} (hs1 : RSt c1 h1 s1) {t : List Nat} (hT : ∀ f, T f → ∃ p, p ∈ t ∧ c.φ p f) (hlent : lentOK t 0 s s1 = true) {o b : Nat} {k : Blk} (hlt : o < c.n) (ho : hasN t o = false) (hb : c.ρ o = .ptr b 0 0) (hf : c.φ o k.fam) (hg : h.get b = some (.cells k)) :
  h1.get b = some (.cells k) ∧ c1.ρ o = .ptr b 0 0 ∧ c1.φ o k.fam := by
 have h1' : c1.ρ o = .ptr b 0 0 := by rw [hL.ρ o hlt]; exact hb
 have hlive : s1.get o ≠ .lent := fun e => by
  rcases lentOK_get hlent o (by rw [hs.len]; exact hlt) e with h2 | h2
  ·exact fam_live hs hf h2
  ·rw [Nat.zero_add, ho] at h2; cases h2
 have hsame : h1.get b = some (.cells k) := hL.same b _ hg (fun ht => by
  obtain ⟨p, hp, hpf⟩ := hT _ ht
  have := hs.dis o p _ hf hpf
  subst this
  rw [hasN_iff.2 hp] at ho; cases ho)
 obtain ⟨k1, g1, g2⟩ := var_obj hs1 h1' hlive
 rw [hsame] at g1
 simp only [Option.some.injEq, VObj.cells.injEq] at g1
 subst g1
 exact ⟨hsame, h1', isOne g2⟩
theorem row_same (hs : RSt c h s) {T : Nat → Prop} (hL : Later c h c1 h1 T) {t : List Nat} (hT : ∀ f, T f → ∃ p, p ∈ t ∧ c.φ p f) {o b i n z : Nat} {cp : Option Nat} {k : Blk} (hlt : o < c.n) (ho : hasN t o = false) (hb : c1.ρ o = .slice b i n cp z) (hf : c1.φ o k.fam) (hg : h1.get b = some (.cells k)) :
  c.ρ o = .slice b i n cp z ∧ c.φ o k.fam ∧ h.get b = some (.cells k) := by
 have h1' : c.ρ o = .slice b i n cp z := by rw [← hL.ρ o hlt]; exact hb
 have h2 := hL.oldφ o _ hlt hf
 refine ⟨h1', h2, ?_⟩
 have hro := hs.obj o
 rw [h1'] at hro
 generalize hfm : c.φ o = fm at hro
 generalize s.get o = u at hro
 cases hro with
 | row fts es b i n cp z k0 hg0 hro hz hz' h0 hn hcp hseg =>
  have : h1.get b = some (.cells k0) := hL.same b _ hg0 (fun ht => by
   obtain ⟨p, hp, hpf⟩ := hT _ ht
   have := hs.dis o p _ (isOne hfm) hpf
   subst this
   rw [hasN_iff.2 hp] at ho; cases ho)
  rw [hg] at this
  simp only [Option.some.injEq, VObj.cells.injEq] at this
  rw [this]; exact hg0
 | rowCut => exact (notOne hfm h2).elim
 | old => exact (notOne hfm h2).elim
 | lent => exact (notOne hfm h2).elim
 | gone => exact (notOne hfm h2).elim
theorem RInv.step (hs : RSt c h s) {T : Nat → Prop} (hL : Later c h c1 h1 T) {s1 : USt} (hs1 : RSt c1 h1 s1) {t : List Nat} (hT : ∀ f, T f → ∃ p, p ∈ t ∧ c.φ p f) (hlent : lentOK t 0 s s1 = true) : ∀ {rs : List RLog} {rv : List (Nat × Oper × Env × VV)}, RInv P c h rs rv → RInv P c1 h1 (rs.map (RLog.turn t)) rv
 | [], [], _ => trivial
 | l :: ls, (i, p, d, u) :: rv, hr => by
  obtain ⟨e1, e2, e3⟩ := hr
  refine ⟨?_, ?_, RInv.step hs hL hs1 hT hlent e3⟩
  ·unfold RLog.turn; split <;> exact e1
  ·obtain ⟨at_, src, stale⟩ := l
   cases src with
   | var o =>
    simp only [RLog.turn, Bool.or_eq_false_iff]
    rintro ⟨g1, g2⟩
    obtain ⟨b, k, q1, q2, q3, q4, q5⟩ := e2 g1
    obtain ⟨w1, w2, w3⟩ := var_on hs hL hs1 hT hlent q3 g2 q4 q5 q1
    exact ⟨b, k, w1, q2, Nat.lt_of_lt_of_le q3 hL.n, w2, w3⟩
   | row o => simp [RLog.turn]
   | data =>
    simp only [RLog.turn]
    intro g1
    obtain ⟨b, k, q1, q2, q3⟩ := e2 g1
    exact ⟨b, k, hL.same b _ q1 (fun ht => by obtain ⟨p, _, hf⟩ := hT _ ht; exact hs.ndK p _ hf q3), q2, hL.K _ q3⟩
   | other => intro _; exact trivial
 | [], _ :: _, hr => hr.elim
 | _ :: _, [], hr => hr.elim
theorem RInv.still (hs : RSt c h s) {T : Nat → Prop} (hL : Later c h c1 h1 T) {s1 : USt} (hs1 : RSt c1 h1 s1) (hT : ∀ f, ¬ T f) (hlent : lentOK [] 0 s s1 = true) : ∀ {rs : List RLog} {rv : List (Nat × Oper × Env × VV)}, RInv P c h rs rv → RInv P c1 h1 rs rv
 | [], [], _ => trivial
 | l :: ls, (i, p, d, u) :: rv, hr => by
  obtain ⟨e1, e2, e3⟩ := hr
  refine ⟨e1, fun g1 => ?_, RInv.still hs hL hs1 hT hlent e3⟩
  have := e2 g1
  obtain ⟨at_, src, stale⟩ := l
  cases src with
  | var o =>
   obtain ⟨b, k, q1, q2, q3, q4, q5⟩ := this
   obtain ⟨w1, w2, w3⟩ := var_on hs hL hs1 (t := []) (fun f hf => absurd hf (hT f)) hlent q3 rfl q4 q5 q1
   exact ⟨b, k, w1, q2, Nat.lt_of_lt_of_le q3 hL.n, w2, w3⟩
  | row o => trivial
  | data =>
   obtain ⟨b, k, q1, q2, q3⟩ := this
   exact ⟨b, k, hL.same b _ q1 (hT _), q2, hL.K _ q3⟩
  | other => trivial
 | [], _ :: _, hr => hr.elim
 | _ :: _, [], hr => hr.elim
theorem EInv.step (hs : RSt c h s) {T : Nat → Prop} (hL : Later c h c1 h1 T) {t : List Nat} (hT : ∀ f, T f → ∃ p, p ∈ t ∧ c.φ p f) : ∀ {es : List ELog} {ev : List (Nat × VHeap)} {acc acc' : List Nat}, (∀ o, hasN acc' o = false → hasN acc o = false ∧ hasN t o = false) → EInv c h es ev acc → EInv c1 h1 es ev acc'
 | [], [], _, _, _, _ => trivial
 | l :: ls, (j, hb) :: ev, acc, acc', ha, hr => by
  obtain ⟨e1, e2, e3, e5, e4⟩ := hr
  have ha' : ∀ o, hasN (l.touched ++ acc') o = false → hasN (l.touched ++ acc) o = false ∧ hasN t o = false := fun o ho => by
   obtain ⟨g1, g2⟩ := hasN_append.1 ho
   obtain ⟨g3, g4⟩ := ha o g2
   exact ⟨hasN_append.2 ⟨g1, g3⟩, g4⟩
  refine ⟨e1, Nat.le_trans e2 hL.n, fun o b k ho hn hb' hf hg => ?_, fun o b i n cp z k ho hn hb' hf hg => ?_, EInv.step hs hL hT ha' e4⟩
  ·obtain ⟨g1, g2⟩ := ha' o hn
   obtain ⟨w1, w2, w3⟩ := var_same hs hL hT (by omega) g2 hb' hf hg
   exact e3 o b k ho g1 w1 w2 w3
  ·obtain ⟨g1, g2⟩ := ha' o hn
   obtain ⟨w1, w2, w3⟩ := row_same hs hL hT (by omega) g2 hb' hf hg
   exact e5 o b i n cp z k ho g1 w1 w2 w3
 | [], _ :: _, _, _, _, hr => hr.elim
 | _ :: _, [], _, _, _, hr => hr.elim
theorem RD.same {g : VG} {K : Nat → Prop} {ft : FT} {d : D} {v : VV} (h : RD g K ft d v) : VV.same v v = true := by
 induction h with
 | ifc ts fts t ft d v ht h ih => simp only [VV.same, Nat.beq_refl, Bool.true_and]; exact ih
 | _ => simp [VV.same]
mutual
theorem def_same {c : Cx} {g : VG} : ∀ {u : UV} {v : VV}, RV c g u v → u.def? = true → VV.same v v = true
 | .bool b, _, h, _ => by cases h; simp [VV.same]
 | .int k n, _, h, _ => by cases h; simp [VV.same]
 | .str x, _, h, _ => by cases h; simp [VV.same]
 | .nilptr, _, h, _ => by cases h; rfl
 | .ptr _ _, _, h, _ => by cases h; simp [VV.same]
 | .eptr _ _ _, _, h, _ => by cases h; simp [VV.same]
 | .aptr _ _ _ _ _ _, _, h, _ => by cases h; simp [VV.same]
 | .fptr _ _ _ _, _, h, _ => by cases h; simp [VV.same]
 | .nilslice, _, h, _ => by cases h; rfl
 | .own _, _, h, _ => by
  cases h with
  | own _ _ ho hb hv => rcases hv with rfl | ⟨b, i, n, cp, z, rfl⟩ <;> simp [VV.same]
 | .fz _ _ _, _, h, _ => by
  cases h with
  | fz _ _ _ _ hrd hc => cases hrd <;> simp [VV.same]
 | .nn _ _, _, h, _ => by
  cases h with
  | nn _ _ _ hrd hc => cases hrd <;> simp [VV.same]
 | .pown _, _, h, _ => by
  cases h with
  | pown _ _ _ ho hb hv => rcases hv with rfl | ⟨b, i, n, cp, z, rfl⟩ <;> simp [VV.same]
 | .pe _ _, _, h, _ => by cases h; simp [VV.same]
 | .pp _ _, _, h, _ => by cases h; simp [VV.same]
 | .nilmap, _, h, _ => by cases h; rfl
 | .map _, _, h, _ => by cases h; simp [VV.same]
 | .nilfunc, _, h, _ => by cases h; rfl
 | .pz _ _, _, h, _ => by
  cases h with
  | pz _ _ _ hrd => cases hrd <;> simp [VV.same]
 | .pn _ _ _, _, h, _ => by cases h; simp [VV.same]
 | .ifz _ _ _, _, h, _ => by
  cases h with
  | ifz _ _ _ _ hrd => exact hrd.same
 | .niliface, _, h, _ => by cases h; rfl
 | .iface t u, _, h, hd => by
  cases h with
  | iface _ _ v hv => simp only [VV.same, Nat.beq_refl, Bool.true_and]; exact def_same hv (by simpa [UV.def?] using hd)
 | .agg us, _, h, hd => by
  cases h with
  | agg _ vs hl hp => exact defs_same ⟨hl, hp⟩ (by simpa [UV.def?] using hd)
 | .tuple us, _, h, hd => by
  cases h with
  | tuple _ vs hl hp => exact defs_same ⟨hl, hp⟩ (by simpa [UV.def?] using hd)
 | .undef, _, _, hd => by simp [UV.def?] at hd
 | .func _, _, _, hd => by simp [UV.def?] at hd
theorem defs_same {c : Cx} {g : VG} : ∀ {us : List UV} {vs : List VV}, RVs c g us vs → UV.defs? us = true → VV.sames vs vs = true
 | [], vs, h, _ => by
  have := h.1
  match vs, this with
  | [], _ => rfl
 | u :: us, vs, h, hd => by
  have := h.1
  simp only [UV.defs?, Bool.and_eq_true] at hd
  match vs, this, h with
  | v :: vs, _, h => simp only [VV.sames, Bool.and_eq_true]; exact ⟨def_same h.head hd.1, defs_same h.tail hd.2⟩
end
theorem readAt_load {dst : Option Tmp} {t : TypeId} {a : Operand} {ty : TypeId} {pos : String} {after : Array Edge} {guard : Option (Nat × Bool)} {e : Env} {b i f : Nat} {ob : VObj} {v : VV} (ha : ev e a = .ptr b i f)
  (hg : h.get b = some ob) (hv : vload P t h (.ptr b i f) = some v) (hsame : VV.same v v = true) : ∀ h2 : VHeap, h2.get b = some ob → readAt P ⟨dst, .load t a, ty, pos, after, guard⟩ e v h2 = true := by
 intro h2 hb
 unfold readAt
 rw [op_load, ha]
 have : vload P t h2 (.ptr b i f) = some v := by
  rw [← hv]
  simp only [vload, rd, hg, hb]
 rw [this]
 exact hsame
theorem vload_block {t : TypeId} {b i f : Nat} {v : VV} (hv : vload P t h (.ptr b i f) = some v) : ∃ k, h.get b = some (.cells k) := by
 simp only [vload, rd] at hv
 cases hg : h.get b with
 | none => rw [hg] at hv; cases hv
 | some o => cases o with
  | cells k => exact ⟨k, rfl⟩
  | map _ => rw [hg] at hv; cases hv
theorem stays_of (hs : RSt c h s) {o : Oper} {e : UEnv} {e' : Env} (he : REnv c h.get e e') {v : VV} {h' : VHeap} {call : Caller} (hop : vop P call o e' h = some (v, h')) {u : UV} {c1 : Cx} (hr : RV c1 h'.get u v) (hd : u.def? = true) : Stays P c h (srcOf o e s) o e' v := by
 obtain ⟨dst, op, ty, pos, after, guard⟩ := o
 unfold srcOf Stays
 cases op with
 | load t a =>
  simp only
  rw [op_load] at hop
  simp only [Option.map_eq_some_iff, Prod.mk.injEq] at hop
  obtain ⟨v', hv, rfl, rfl⟩ := hop
  have hsame := def_same hr hd
  have ha := uev_rel he a
  cases hu : uev e a <;> simp only <;> (try trivial)
  ·rename_i o f
   rw [hu] at ha
   generalize hx : ev e' a = x at ha
   cases ha with
   | ptr _ _ b ho hb =>
    rw [hx] at hv
    obtain ⟨k, hk⟩ := vload_block hv
    cases hs' : s.get o with
    | obj cs =>
     obtain ⟨k0, g1, g2⟩ := var_obj hs hb (by rw [hs']; simp)
     rw [hk] at g1
     simp only [Option.some.injEq, VObj.cells.injEq] at g1
     subst g1
     exact ⟨b, k, hk, readAt_load hx hk hv hsame, ho, hb, isOne g2⟩
    | _ => trivial
  ·rename_i o i f
   rw [hu] at ha
   generalize hx : ev e' a = x at ha
   cases ha with
   | eptr _ _ _ b i0 n cp z ho hb hi =>
    rw [hx] at hv
    obtain ⟨k, hk⟩ := vload_block hv
    cases hs' : s.get o with
    | row fts es =>
     have hro := hs.obj o
     rw [hs', hb] at hro
     generalize hfm : c.φ o = fm at hro
     cases hro with
     | rowCut => omega
     | row _ _ _ _ _ _ _ k0 hg0 hro hz hz' h0 hn hcp hseg =>
      rw [hk] at hg0
      simp only [Option.some.injEq, VObj.cells.injEq] at hg0
      subst hg0
      exact ⟨b, k, i0, n, cp, z, hk, readAt_load hx hk hv hsame, ho, hb, isOne hfm⟩
    | _ => trivial
  ·rename_i fts o g n j f
   rw [hu] at ha
   generalize hx : ev e' a = x at ha
   cases ha with
   | aptr _ _ _ _ _ _ b ho hb hj =>
    rw [hx] at hv
    obtain ⟨k, hk⟩ := vload_block hv
    cases hs' : s.get o with
    | obj cs =>
     obtain ⟨k0, g1, g2⟩ := var_obj hs hb (by rw [hs']; simp)
     rw [hk] at g1
     simp only [Option.some.injEq, VObj.cells.injEq] at g1
     subst g1
     exact ⟨b, k, hk, readAt_load hx hk hv hsame, ho, hb, isOne g2⟩
    | _ => trivial
  ·rename_i fts es i f
   rw [hu] at ha
   generalize hx : ev e' a = x at ha
   cases ha with
   | fptr _ _ _ _ b i0 n cp z hrd hi =>
    rw [hx] at hv
    obtain ⟨k, g1, g2, _⟩ := hrd.seg
    exact ⟨b, k, g1, readAt_load hx g1 hv hsame, g2⟩
  ·rename_i fts ds f
   rw [hu] at ha
   generalize hx : ev e' a = x at ha
   cases ha with
   | pn _ _ _ b hrd =>
    rw [hx] at hv
    obtain ⟨k, g1, g2, _⟩ := hrd.ptr_inv
    exact ⟨b, k, g1, readAt_load hx g1 hv hsame, g2⟩
 | _ => trivial
theorem reads_all {bef : Nat} {o : Oper} {e : Env} {v : VV} {src : Src} (hst : Stays P c h src o e v) : ∀ {es : List ELog} {ev : List (Nat × VHeap)} {acc : List Nat}, EInv c h es ev acc → reads bef src acc es = true → (ev.all fun (j, hb) => bef.testBit j || readAt P o e v hb) = true
 | [], [], _, _, _ => rfl
 | l :: ls, (j, hb) :: ev, acc, hE, hr => by
  obtain ⟨e1, e2, e3, e5, e4⟩ := hE
  cases src with
  | row p =>
   simp only [reads, Bool.and_eq_true, Bool.or_eq_true] at hr
   obtain ⟨h1, h2⟩ := hr
   simp only [List.all_cons, Bool.and_eq_true, Bool.or_eq_true]
   refine ⟨?_, reads_all hst e4 h2⟩
   rw [← e1]
   rcases h1 with h1 | ⟨h1, h3⟩
   ·exact .inl h1
   ·right
    obtain ⟨b, k, i, n, cp, z, q1, q2, q3, q4, q5⟩ := hst
    exact q2 hb (e5 p b i n cp z k (Nat.le_of_ble_eq_true h1) (by simpa using h3) q4 q5 q1)
  | var p =>
   simp only [reads, Bool.and_eq_true, Bool.or_eq_true] at hr
   obtain ⟨h1, h2⟩ := hr
   simp only [List.all_cons, Bool.and_eq_true, Bool.or_eq_true]
   refine ⟨?_, reads_all hst e4 h2⟩
   rw [← e1]
   rcases h1 with h1 | ⟨h1, h3⟩
   ·exact .inl h1
   ·right
    obtain ⟨b, k, q1, q2, q3, q4, q5⟩ := hst
    exact q2 hb (e3 p b k (Nat.le_of_ble_eq_true h1) (by simpa using h3) q4 q5 q1)
  | data =>
   simp only [reads, Bool.and_eq_true] at hr
   simp only [List.all_cons, Bool.and_eq_true, Bool.or_eq_true]
   exact ⟨.inl (by rw [← e1]; exact hr.1), reads_all hst e4 hr.2⟩
  | other =>
   simp only [reads, Bool.and_eq_true] at hr
   simp only [List.all_cons, Bool.and_eq_true, Bool.or_eq_true]
   exact ⟨.inl (by rw [← e1]; exact hr.1), reads_all hst e4 hr.2⟩
 | [], _ :: _, _, hE, _ => hE.elim
 | _ :: _, [], _, hE, _ => hE.elim
theorem writes_all {bef : Nat} {t : List Nat} : ∀ {rs : List RLog} {rv : List (Nat × Oper × Env × VV)}, RInv P c h (rs.map (RLog.turn t)) rv → writes bef (rs.map (RLog.turn t)) = true → (rv.all fun (j, p, d, u) => bef.testBit j || readAt P p d u h) = true
 | [], [], _, _ => rfl
 | l :: ls, (i, p, d, u) :: rv, hR, hw => by
  simp only [List.map_cons] at hR hw
  obtain ⟨e1, e2, e3⟩ := hR
  simp only [writes, Bool.and_eq_true, Bool.or_eq_true, Bool.not_eq_true'] at hw
  simp only [List.all_cons, Bool.and_eq_true, Bool.or_eq_true]
  refine ⟨?_, writes_all e3 hw.2⟩
  rw [← e1]
  rcases hw.1 with h1 | h1
  ·exact .inl h1
  ·right
   have := e2 h1
   have hno : (RLog.turn t l).src = l.src := by unfold RLog.turn; split <;> rfl
   rw [hno] at this
   obtain ⟨at_, src, stale⟩ := l
   cases src with
   | var o => obtain ⟨b, k, q1, q2, _⟩ := this; exact q2 h q1
   | row o => simp [RLog.turn] at h1
   | data => obtain ⟨b, k, q1, q2, _⟩ := this; exact q2 h q1
   | other => simp [RLog.turn] at h1
 | [], _ :: _, hR, _ => hR.elim
 | _ :: _, [], hR, _ => hR.elim
theorem still_touch {T : Known} {o : Oper} {e : UEnv} (hk : kindOf P o ≠ .eff) : stepTouch P T o e s = [] := by
 obtain ⟨dst, op, ty, pos, after, guard⟩ := o
 cases op with
 | store => exact absurd rfl hk
 | mapUpdate => exact absurd rfl hk
 | insert => exact absurd rfl hk
 | call cl =>
  obtain ⟨callee, args, ats⟩ := cl
  cases callee with
  | builtin b => cases b <;> first | rfl | exact absurd rfl hk
  | value f => exact absurd rfl hk
  | invoke r n => exact absurd rfl hk
 | _ => rfl
theorem udraw_rel {T : Known} {call : FuncId → List UV → USt → (UV → USt → Option R) → Option R}
  (hcall : ∀ g args s (K : UV → USt → Option R) r, call g args s K = some r → ∀ (c : Cx) (h : VHeap) vargs, RSt c h s → RVs c h.get args vargs →
   VC P seatX g vargs h fun v h' => ∃ u s1 c1, RSt c1 h' s1 ∧ RV c1 h'.get u v ∧ Later c h c1 h' (fun f => ∃ o, o ∈ callTouch T g args s ∧ c.φ o f) ∧ K u s1 = some r)
  {ops : Array Oper} {bef : Array Nat} : ∀ (l : List Oper) (i : Nat) (e : UEnv) (s : USt) (rs : List RLog) (es : List ELog) (K : UEnv → USt → Option R) (r : R), udraw P T call ops bef i l e s rs es K = some r →
   ∀ (c : Cx) (h : VHeap) (e' : Env) (rv : List (Nat × Oper × Env × VV)) (ev : List (Nat × VHeap)), RSt c h s → REnv c h.get e e' → RInv P c h rs rv → EInv c h es ev [] →
   WD P seatX ops bef i l e' h rv ev fun e1 h1 => ∃ u1 s1 c1, RSt c1 h1 s1 ∧ REnv c1 h1.get u1 e1 ∧ Later c h c1 h1 c.fams ∧ K u1 s1 = some r
 | [], i, e, s, rs, es, K, r, hu, c, h, e', rv, ev, hs, he, hR, hE => WD.nil ⟨e, s, c, hs, he, Later.refl _ _ _, by unfold udraw at hu; exact hu⟩
 | o :: l, i, e, s, rs, es, K, r, hu, c, h, e', rv, ev, hs, he, hR, hE => by
  have run : ∀ (e0 : UEnv), REnv c h.get e0 e' → wantedV ops o e' = some true → (match kindOf P o with
    | .read => match reads (bef.getD i 0) (srcOf o e0 s) [] es with
     | true => ustep P call o e0 s fun v s' => match v.def? && lentOK [] 0 s s' with
      | true => udraw P T call ops bef (i + 1) l (e0.put o.dst v) s' (⟨i, srcOf o e0 s, false⟩ :: rs) es K
      | false => none
     | false => none
    | .eff => match writes (bef.getD i 0) (rs.map (RLog.turn (stepTouch P T o e0 s))) with
     | true => ustep P call o e0 s fun v s' => match lentOK (stepTouch P T o e0 s) 0 s s' with
      | true => udraw P T call ops bef (i + 1) l (e0.put o.dst v) s' (rs.map (RLog.turn (stepTouch P T o e0 s))) (⟨i, stepTouch P T o e0 s, s.len⟩ :: es) K
      | false => none
     | false => none
    | _ => ustep P call o e0 s fun v s' => match lentOK [] 0 s s' with
     | true => udraw P T call ops bef (i + 1) l (e0.put o.dst v) s' rs es K
     | false => none) = some r →
    WD P seatX ops bef i (o :: l) e' h rv ev fun e1 h1 => ∃ u1 s1 c1, RSt c1 h1 s1 ∧ REnv c1 h1.get u1 e1 ∧ Later c h c1 h1 c.fams ∧ K u1 s1 = some r := by
   intro e0 he0 hw hu
   refine WD.cons hw ?_
   have hT : ∀ f, c.K f → ¬ touchT P T c o e0 s f := fun f hK ⟨p, _, hp⟩ => hs.ndK p f hp hK
   have still : kindOf P o ≠ .eff → ∀ f, ¬ touchT P T c o e0 s f := fun hk f ⟨p, hp, _⟩ => by rw [still_touch hk] at hp; cases hp
   have quiet : kindOf P o ≠ .eff → kindOf P o ≠ .read → (ustep P call o e0 s fun v s' => match lentOK [] 0 s s' with
     | true => udraw P T call ops bef (i + 1) l (e0.put o.dst v) s' rs es K
     | false => none) = some r →
     WO P seatX o e' h fun v h' => (kindOf P o = .read → (ev.all fun (j, hb) => (bef.getD i 0).testBit j || readAt P o e' v hb) = true) ∧ (kindOf P o = .eff → (rv.all fun (j, p, d, u) => (bef.getD i 0).testBit j || readAt P p d u h') = true) ∧
      WD P seatX ops bef (i + 1) l (e'.put o.dst v) h' (match kindOf P o with | .read => (i, o, e', v) :: rv | _ => rv) (match kindOf P o with | .eff => (i, h) :: ev | _ => ev)
       fun e1 h1 => ∃ u1 s1 c1, RSt c1 h1 s1 ∧ REnv c1 h1.get u1 e1 ∧ Later c h c1 h1 c.fams ∧ K u1 s1 = some r := by
    intro hk1 hk2 hu
    obtain ⟨k, v, h', e1, u, s1, c1, q1, q2, q3, q4⟩ := ustep_rel hcall hs he0 hu
    split at q4 <;> (try (cases q4; done))
    rename_i hlent
    refine ⟨k, v, h', e1, fun hk => absurd hk hk2, fun hk => absurd hk hk1, ?_⟩
    have hL : Later c h c1 h' c.fams := q3.mono (fun f ⟨p, _, hp⟩ => ⟨p, hp⟩)
    have e3 : (match kindOf P o with | .read => (i, o, e', v) :: rv | _ => rv) = rv := by cases hk : kindOf P o <;> first | rfl | exact absurd hk hk2
    have e4 : (match kindOf P o with | .eff => (i, h) :: ev | _ => ev) = ev := by cases hk : kindOf P o <;> first | rfl | exact absurd hk hk1
    rw [e3, e4]
    obtain ⟨k2, e2, h2, e5, u2, s2, c2, p1, p2, p3, p4⟩ := udraw_rel hcall l _ _ s1 rs es K r q4 c1 h' _ rv ev q1 ((he0.later q3 hT).put q2 o.dst) (hR.still hs q3 q1 (still hk1) hlent) (hE.step (t := []) hs q3 (fun f hf => absurd hf (still hk1 f)) (fun o ho => ⟨ho, rfl⟩))
    exact ⟨k2, e2, h2, e5, u2, s2, c2, p1, p2, hL.trans' p3 hs.wf, p4⟩
   cases hk : kindOf P o with
   | pure => rw [hk] at hu; have := quiet (by rw [hk]; simp) (by rw [hk]; simp) hu; rwa [hk] at this
   | alloc => rw [hk] at hu; have := quiet (by rw [hk]; simp) (by rw [hk]; simp) hu; rwa [hk] at this
   | read =>
    rw [hk] at hu
    simp only at hu
    split at hu
    ·rename_i hrd
     obtain ⟨k, v, h', e1, u, s1, c1, q1, q2, q3, q4⟩ := ustep_rel hcall hs he0 hu
     split at q4
     ·rename_i hdef
      simp only [Bool.and_eq_true] at hdef
      obtain ⟨hdef, hlent⟩ := hdef
      have hst := stays_of hs he0 e1 q2 hdef
      refine ⟨k, v, h', e1, fun _ => reads_all hst hE hrd, (fun hk => by cases hk), ?_⟩
      have hns := still (by rw [hk]; simp)
      have hL : Later c h c1 h' c.fams := q3.mono (fun f ⟨p, _, hp⟩ => ⟨p, hp⟩)
      simp only
      have hR' : RInv P c h (⟨i, srcOf o e0 s, false⟩ :: rs) ((i, o, e', v) :: rv) := ⟨rfl, fun _ => by
       revert hst
       cases srcOf o e0 s <;> intro hst <;> first | exact hst | exact trivial, hR⟩
      obtain ⟨k2, e2, h2, e5, u2, s2, c2, p1, p2, p3, p4⟩ := udraw_rel hcall l _ _ s1 _ es K r q4 c1 h' _ ((i, o, e', v) :: rv) ev q1 ((he0.later q3 hT).put q2 o.dst) (hR'.still hs q3 q1 hns hlent) (hE.step (t := []) hs q3 (fun f hf => absurd hf (hns f)) (fun o ho => ⟨ho, rfl⟩))
      exact ⟨k2, e2, h2, e5, u2, s2, c2, p1, p2, hL.trans' p3 hs.wf, p4⟩
     ·cases q4
    ·cases hu
   | eff =>
    rw [hk] at hu
    simp only at hu
    split at hu
    ·rename_i hwr
     obtain ⟨k, v, h', e1, u, s1, c1, q1, q2, q3, q4⟩ := ustep_rel hcall hs he0 hu
     have hTt : ∀ f, touchT P T c o e0 s f → ∃ p, p ∈ stepTouch P T o e0 s ∧ c.φ p f := fun f hf => hf
     split at q4 <;> (try (cases q4; done))
     rename_i hlent
     have hR' := hR.step (t := stepTouch P T o e0 s) hs q3 q1 hTt hlent
     refine ⟨k, v, h', e1, fun hk => (by cases hk), fun _ => writes_all hR' hwr, ?_⟩
     have hL : Later c h c1 h' c.fams := q3.mono (fun f ⟨p, _, hp⟩ => ⟨p, hp⟩)
     simp only
     have hE' : EInv c1 h' (⟨i, stepTouch P T o e0 s, s.len⟩ :: es) ((i, h) :: ev) [] := by
      refine ⟨rfl, by rw [hs.len]; exact q3.n, fun o2 b k ho hn hb hf hg => ?_, fun o2 b i n cp z k ho hn hb hf hg => ?_, hE.step hs q3 hTt (fun o2 ho => ⟨rfl, by simpa using ho⟩)⟩
      ·rw [hs.len] at ho
       exact (var_same hs q3 hTt ho (by simpa using hn) hb hf hg).2.2
      ·rw [hs.len] at ho
       exact (row_same hs q3 hTt ho (by simpa using hn) hb hf hg).2.2
     obtain ⟨k2, e2, h2, e5, u2, s2, c2, p1, p2, p3, p4⟩ := udraw_rel hcall l _ _ s1 _ _ K r q4 c1 h' _ rv ((i, h) :: ev) q1 ((he0.later q3 hT).put q2 o.dst) hR' hE'
     exact ⟨k2, e2, h2, e5, u2, s2, c2, p1, p2, hL.trans' p3 hs.wf, p4⟩
    ·cases hu
  have skip : ∀ (e0 : UEnv), REnv c h.get e0 e' → wantedV ops o e' = some false → udraw P T call ops bef (i + 1) l (e0.put o.dst uskip) s rs es K = some r → WD P seatX ops bef i (o :: l) e' h rv ev fun e1 h1 => ∃ u1 s1 c1, RSt c1 h1 s1 ∧ REnv c1 h1.get u1 e1 ∧ Later c h c1 h1 c.fams ∧ K u1 s1 = some r := by
   intro e0 he0 hw hu
   exact WD.skip hw (udraw_rel hcall l _ _ s rs es K r hu c h _ rv ev hs (he0.put (skip_rel c h.get) o.dst) hR hE)
  unfold udraw at hu
  simp only at hu
  split at hu
  ·rename_i hg
   exact run e he (wanted_none' hg) hu
  ·rename_i j want hg
   split at hu
   ·cases hu
   ·rename_i t ht
    obtain ⟨g1, g2⟩ := guard_rel hg ht he
    split at hu
    ·rename_i p hp
     obtain ⟨w1, w2⟩ := g1 p hp
     cases p with
     | true =>
      simp only [cond_true] at hu
      cases want with
      | true => exact run _ w2 w1 hu
      | false => exact skip _ w2 w1 hu
     | false =>
      simp only [cond_false] at hu
      cases want with
      | true => exact skip _ w2 w1 hu
      | false => exact run _ w2 w1 hu
    ·rename_i hp
     exact skip e he (g2 hp) hu
    ·cases hu
end
end Go.Proofs.Ythlbahcggmbfaaa.V

namespace Go.Proofs.Ythlbahcggmbfaaa.V
section
variable {P : Program} {R : Type}
theorem leList_iff : ∀ {l : List UV} {n : Nat}, leList l n = true → l.length ≤ n
 | [], _, _ => Nat.zero_le _
 | _ :: l, 0, h => by simp [leList] at h
 | _ :: l, n + 1, h => by simp only [leList] at h; have := leList_iff h; simp; omega
theorem args_env {c : Cx} {g : VG} {us : List UV} {vs : List VV} (h : RVs c g us vs) : REnv c g us vs := by
 intro t
 have key : ∀ (us : List UV) (t : Nat), UEnv.get us t = us.getD t .undef := by
  intro us
  induction us with
  | nil => intro t; simp [UEnv.get]
  | cons u us ih => intro t; cases t with
   | zero => simp [UEnv.get]
   | succ t => simp [UEnv.get, ih]
 rw [key]
 show RV c g _ (vs.getD t .undef)
 rw [List.getD_eq_getElem?_getD, List.getD_eq_getElem?_getD]
 by_cases ht : t < us.length
 ·have ht' : t < vs.length := by rw [← h.1]; exact ht
  rw [List.getElem?_eq_getElem ht, List.getElem?_eq_getElem ht']
  exact h.2 t _ _ (List.getElem?_eq_getElem ht) (List.getElem?_eq_getElem ht')
 ·rw [List.getElem?_eq_none (by omega)]
  exact .undef _
theorem uresultsL_rel {c : Cx} {h : VHeap} {s : USt} (hs : RSt c h s) {e : UEnv} {e' : Env} (he : REnv c h.get e e') : ∀ {rs : List ResultVar} {us : List UV}, uresultsL P e s rs = some us → ∃ vs, rs.mapM (vresult P e' h) = some vs ∧ RVs c h.get us vs
 | [], us, hu => by simp only [uresultsL, Option.some.injEq] at hu; subst hu; exact ⟨[], rfl, RVs.nil _ _⟩
 | r :: rs, us, hu => by
  simp only [uresultsL] at hu
  split at hu
  ·rename_i v vs h1 h2
   simp only [Option.some.injEq] at hu; subst hu
   obtain ⟨ws, e1, e2⟩ := uresultsL_rel hs he h2
   have : ∃ w, vresult P e' h r = some w ∧ RV c h.get v w := by
    cases r with
    | tmp t => simp only [uresult, Option.some.injEq] at h1; subst h1; exact ⟨_, rfl, he t⟩
    | cell a t => exact uload_rel hs h1 (he a)
   obtain ⟨w, e3, e4⟩ := this
   exact ⟨w :: ws, by simp [List.mapM_cons, e3, e1], RVs.cons e4 e2⟩
  ·cases hu
theorem uresults_rel {c : Cx} {h : VHeap} {s : USt} (hs : RSt c h s) {e : UEnv} {e' : Env} (he : REnv c h.get e e') {fn : Func} {u : UV} (hu : uresults P fn e s = some u) : ∃ v, vresults P fn e' h = some v ∧ RV c h.get u v := by
 unfold uresults at hu
 unfold vresults
 split at hu
 ·rename_i v h1
  simp only [Option.some.injEq] at hu; subst hu
  obtain ⟨vs, e1, e2⟩ := uresultsL_rel hs he h1
  have := e2.1
  match vs, this, e1, e2 with
  | [w], _, e1, e2 => rw [e1]; exact ⟨w, rfl, e2.head⟩
 ·rename_i vs hne h1
  simp only [Option.some.injEq] at hu; subst hu
  obtain ⟨ws, e1, e2⟩ := uresultsL_rel hs he h1
  rw [e1]
  have hl := e2.1
  match ws, hl, e2 with
  | [], _, e2 => exact ⟨_, rfl, RV.tuple' e2⟩
  | [w], hl, e2 =>
   have : vs.length = 1 := hl
   match vs, this with
   | [v], _ => exact absurd rfl (hne v)
  | w :: w2 :: ws, _, e2 => exact ⟨_, rfl, RV.tuple' e2⟩
 ·cases hu
def uinline (P : Program) (F : FuncId → Option (Bool × ToldF)) (Pc : Nat → Option ToldP) (k : Nat) (g : FuncId) (args : List UV) (s : USt) (K : UV → USt → Option R) : Option R :=
 match ufn P g with
 | some fn => match fn.body with
  | some c => match leList args fn.ntmps with
   | true => uexec P F k Pc 1 c args s fun x e s => match x with
    | .exit _ => none
    | _ => match uresults P fn e s with
     | some v => K v s
     | none => none
   | false => none
  | none => none
 | none => none
def SoundE (P : Program) (F : FuncId → Option (Bool × ToldF)) (k : Nat) : Prop :=
 ∀ (R : Type) (Pc : Nat → Option ToldP) (m p : Nat) (body code : Code) (e : UEnv) (s : USt) (K : VExit → UEnv → USt → Option R) (r : R), uexec P F k Pc p code e s K = some r → 1 ≤ p → codeAt body p = some code → SoundPc P m body Pc →
  ∀ (c : Cx) (h : VHeap) (e' : Env), m ≤ c.n → RSt c h s → REnv c h.get e e' →
  WP P seatX code e' h fun x e1 h1 => ∃ u1 s1 c1, RSt c1 h1 s1 ∧ REnv c1 h1.get u1 e1 ∧ LaterM m c h c1 h1 c.fams ∧ K x u1 s1 = some r
theorem uinline_rel {F : FuncId → Option (Bool × ToldF)} {Pc : Nat → Option ToldP} {k : Nat} (hE : SoundE P F k) {g : FuncId} {args : List UV} {s : USt} {K : UV → USt → Option R} {r : R} (hu : uinline P F Pc k g args s K = some r) {c : Cx} {h : VHeap} {vargs : List VV}
  (hPc : ∀ fn body, P.funcs[g]? = some fn → fn.body = some body → SoundPc P c.n body Pc) (hs : RSt c h s) (hr : RVs c h.get args vargs) :
  VC P seatX g vargs h fun v h' => ∃ u s1 c1, RSt c1 h' s1 ∧ RV c1 h'.get u v ∧ Later c h c1 h' c.fams ∧ K u s1 = some r := by
 unfold uinline at hu
 split at hu
 ·rename_i fn hf0
  obtain ⟨hx0, hf⟩ := ufn_some hf0
  split at hu
  ·rename_i code hb
   split at hu
   ·rename_i hle
    refine VC.of hx0 hf hb (by rw [← hr.1]; exact leList_iff hle) ?_
    refine (hE R Pc c.n 1 code code args s _ r hu (Nat.le_refl _) rfl (hPc fn code hf hb) c h vargs (Nat.le_refl _) hs (args_env hr)).mono ?_
    rintro x e1 h1 ⟨u1, s1, c1, q1, q2, q3, q4⟩
    cases x with
    | exit n => cases q4
    | normal =>
     simp only at q4
     split at q4
     ·rename_i v hv
      obtain ⟨w, w1, w2⟩ := uresults_rel q1 q2 hv
      exact ⟨trivial, w, w1, v, s1, c1, q1, w2, q3.full, q4⟩
     ·cases q4
    | ret =>
     simp only at q4
     split at q4
     ·rename_i v hv
      obtain ⟨w, w1, w2⟩ := uresults_rel q1 q2 hv
      exact ⟨trivial, w, w1, v, s1, c1, q1, w2, q3.full, q4⟩
     ·cases q4
   ·cases hu
  ·cases hu
 ·cases hu
theorem rangeN_mem {n o : Nat} (h : o < n) : o ∈ rangeN n := by
 induction n with
 | zero => omega
 | succ n ih =>
  simp only [rangeN, List.mem_cons]
  by_cases he : o = n
  ·exact .inl he
  ·exact .inr (ih (by omega))
theorem exec_rel {F : FuncId → Option (Bool × ToldF)} (hF : SoundF' P F) : ∀ k, SoundE P F k := by
 intro k
 induction k with
 | zero => intro R Pc m p body code e s K r hu; simp [uexec] at hu
 | succ k ih =>
  intro R Pc m p body code e s K r hu hp hat hPc c h e' hm hs he
  unfold uexec at hu
  split at hu
  ·rename_i told htold
   exact hPc p told htold code hat R e s K r hu c h e' hm hs he
  ·have sub : ∀ (b : Bool) (d : Code), codeSub code b = some d → codeAt body (2 * p + b.toNat) = some d := fun b d hd => codeAt_step hp hat b hd
   cases code with
   | skip => exact WP.skip ⟨e, s, c, hs, he, LaterM.refl hm _ _, hu⟩
   | label n => exact WP.label ⟨e, s, c, hs, he, LaterM.refl hm _ _, hu⟩
   | exit n => exact WP.exit ⟨e, s, c, hs, he, LaterM.refl hm _ _, hu⟩
   | ret => exact WP.ret ⟨e, s, c, hs, he, LaterM.refl hm _ _, hu⟩
   | region pp ops draw =>
    simp only at hu
    have hcall : ∀ g args s (K : UV → USt → Option R) r, (match F g with
      | some (own, told) => utold own told args s K
      | none => uinline P F (fun _ => none) k g args s K) = some r → ∀ (c : Cx) (h : VHeap) vargs, RSt c h s → RVs c h.get args vargs →
      VC P seatX g vargs h fun v h' => ∃ u s1 c1, RSt c1 h' s1 ∧ RV c1 h'.get u v ∧ Later c h c1 h' (fun f => ∃ o, o ∈ callTouch ⟨F, fun _ => none⟩ g args s ∧ c.φ o f) ∧ K u s1 = some r := by
     intro g args s K r hu c h vargs hs hr
     split at hu
     ·rename_i own told hFg
      cases hX : seatX g with
      | none =>
       refine (utold_rel (hF g own told hFg) hu hs hr).mono ?_
       rintro v h' ⟨u, s1, c1, q1, q2, q3, q4⟩
       exact ⟨u, s1, c1, q1, q2, q3.mono (fun f ⟨o, ho, hf⟩ => ⟨o, by simp only [callTouch, hX, hFg]; exact ho, hf⟩), q4⟩
      | some x =>
       cases hT : seatT g with
       | true =>
        refine (utold_rel (hF g own told hFg) hu hs hr).mono ?_
        rintro v h' ⟨u, s1, c1, q1, q2, q3, q4⟩
        exact ⟨u, s1, c1, q1, q2, q3.mono (fun f ⟨o, ho, hf⟩ => ⟨o, by simp only [callTouch, hX, hT, hFg]; exact ho, hf⟩), q4⟩
       | false =>
       obtain ⟨k2, v, h', hrun, u, s1, c1, q1, q2, q3, q4⟩ := utold_rel (hF g own told hFg) hu hs hr
       have hq : x vargs h = some (v, h') := by
        have := hrun
        unfold vrun vfun at this
        rw [hX] at this
        exact this
       exact ⟨k2, v, h', hrun, u, s1, c1, q1, q2, ⟨q3.n, q3.ρ, q3.K, q3.next, fun b o hb _ => seatX_quiet hX hT _ _ _ _ hq b o hb, q3.fam, q3.mp, q3.newK, q3.newφ, q3.oldφ⟩, q4⟩
     ·rename_i hFg
      have hX : seatX g = none := by
       cases hX : seatX g with
       | none => rfl
       | some x =>
        have hu' : uinline P F (fun _ => none) k g args s K = some r := hu
        unfold uinline ufn at hu'
        rw [hX] at hu'
        cases hu'
      refine (uinline_rel ih hu (fun _ _ _ _ => SoundPc.none _ _ _) hs hr).mono ?_
      rintro v h' ⟨u, s1, c1, q1, q2, q3, q4⟩
      refine ⟨u, s1, c1, q1, q2, q3.mono (fun f ⟨o, hf⟩ => ⟨o, ?_, hf⟩), q4⟩
      simp only [callTouch, hX, hFg]
      refine rangeN_mem ?_
      rcases Nat.lt_or_ge o s.len with h1 | h1
      ·exact h1
      ·have := hs.out (o := o) (by rw [← hs.len]; exact h1); rw [this] at hf; cases hf
    cases draw with
    | false =>
     simp only at hu
     refine WP.region ?_
     obtain ⟨k2, e2, h2, a1, u2, s2, c2, p1, p2, p3, p4⟩ := uops_rel (T := ⟨F, fun _ => none⟩) hcall ops.toList e s _ r hu c h e' hs he
     exact ⟨k2, e2, h2, a1, u2, s2, c2, p1, p2, p3.toM hm, p4⟩
    | true =>
     simp only at hu
     split at hu
     ·rename_i hd
      refine WP.draw hd ?_
      obtain ⟨k2, e2, h2, a1, u2, s2, c2, p1, p2, p3, p4⟩ := udraw_rel (T := ⟨F, fun _ => none⟩) hcall ops.toList 0 e s [] [] _ r hu c h e' [] [] hs he trivial trivial
      exact ⟨k2, e2, h2, a1, u2, s2, c2, p1, p2, p3.toM hm, p4⟩
     ·cases hu
   | seq a b =>
    simp only at hu
    refine WP.seq ((ih R Pc m (2 * p) body a e s _ r hu (by omega) (sub false a rfl) hPc c h e' hm hs he).mono ?_)
    rintro x e1 h1 ⟨u1, s1, c1, q1, q2, q3, q4⟩
    cases x with
    | normal =>
     simp only at q4
     refine (ih R Pc m (2 * p + 1) body b u1 s1 K r q4 (by omega) (sub true b rfl) hPc c1 h1 e1 q3.n q1 q2).mono ?_
     rintro x e2 h2 ⟨u2, s2, c2, p1, p2, p3, p4⟩
     exact ⟨u2, s2, c2, p1, p2, q3.trans p3 hs.wf, p4⟩
    | exit n => exact ⟨u1, s1, c1, q1, q2, q3, q4⟩
    | ret => exact ⟨u1, s1, c1, q1, q2, q3, q4⟩
   | cond q a b =>
    simp only at hu
    split at hu
    ·rename_i t ht
     have hr := uev_rel he q
     rw [ht] at hr
     have hv : ev e' q = .bool t := by generalize ev e' q = v at hr; cases hr; rfl
     refine WP.cond t hv (fun e1 => ?_) (fun e1 => ?_)
     ·subst e1; simp only [cond_true] at hu; exact ih R Pc m (2 * p) body a e s K r hu (by omega) (sub false a rfl) hPc c h e' hm hs he
     ·subst e1; simp only [cond_false] at hu; exact ih R Pc m (2 * p + 1) body b e s K r hu (by omega) (sub true b rfl) hPc c h e' hm hs he
    ·cases hu
   | block id b =>
    simp only at hu
    refine WP.block ((ih R Pc m (2 * p) body b e s _ r hu (by omega) (sub false b rfl) hPc c h e' hm hs he).mono ?_)
    rintro x e1 h1 ⟨u1, s1, c1, q1, q2, q3, q4⟩
    cases x with
    | normal => exact ⟨u1, s1, c1, q1, q2, q3, q4⟩
    | ret => exact ⟨u1, s1, c1, q1, q2, q3, q4⟩
    | exit n =>
     simp only at q4
     unfold Out
     simp only
     split at q4
     ·rename_i hb; rw [hb]; exact ⟨u1, s1, c1, q1, q2, q3, q4⟩
     ·rename_i hb; rw [hb]; exact ⟨u1, s1, c1, q1, q2, q3, q4⟩
   | loop b =>
    simp only at hu
    refine WP.loop1 ((ih R Pc m (2 * p) body b e s _ r hu (by omega) (sub false b rfl) hPc c h e' hm hs he).mono ?_)
    rintro x e1 h1 ⟨u1, s1, c1, q1, q2, q3, q4⟩
    cases x with
    | normal =>
     simp only at q4
     refine (ih R Pc m p body (.loop b) u1 s1 K r q4 hp hat hPc c1 h1 e1 q3.n q1 q2).mono ?_
     rintro x e2 h2 ⟨u2, s2, c2, p1, p2, p3, p4⟩
     exact ⟨u2, s2, c2, p1, p2, q3.trans p3 hs.wf, p4⟩
    | exit n => exact ⟨u1, s1, c1, q1, q2, q3, q4⟩
    | ret => exact ⟨u1, s1, c1, q1, q2, q3, q4⟩
   | _ => cases hu
theorem ufun_rel {T : Known} (hF : SoundF' P T.F) {k : Nat} {g : FuncId} {args : List UV} {s : USt} {K : UV → USt → Option R} {r : R} (hu : ufun P T k g args s K = some r) (hPc : ∀ fn body, P.funcs[g]? = some fn → fn.body = some body → SoundPc P s.len body T.Pc)
  {c : Cx} {h : VHeap} {vargs : List VV} (hs : RSt c h s) (hr : RVs c h.get args vargs) :
  VC P seatX g vargs h fun v h' => ∃ u s1 c1, RSt c1 h' s1 ∧ RV c1 h'.get u v ∧ Later c h c1 h' c.fams ∧ K u s1 = some r :=
 uinline_rel (exec_rel hF k) hu (by rw [← hs.len]; exact hPc) hs hr
end
end Go.Proofs.Ythlbahcggmbfaaa.V

namespace Go.Proofs.Ythlbahcggmbfaaa.V
inductive Gh where
 | live (m : List Bool)
 | keep (ids : List Nat)
 | ownT (t : Nat) (fts : List FT)
 | ownC (o f : Nat) (fts : List FT)
 | fzT (t : Nat) (fts : List FT)
 | fzC (o f : Nat) (fts : List FT)
 | gc
 | ownP (t : Nat) (p : List Nat) (fts : List FT)
 | fzP (t : Nat) (p : List Nat) (fts : List FT)
 | ifC (o f : Nat) (ts : List Nat) (fts : List FT)
 | ifP (t : Nat) (p : List Nat) (ts : List Nat) (fts : List FT)
 | pownC (o f : Nat) (fts : List FT)
def maskU : List Bool → UEnv → UEnv
 | true :: m, v :: e => v :: maskU m e
 | false :: m, _ :: e => .undef :: maskU m e
 | _ :: m, [] => .undef :: maskU m []
 | [], _ => []
def prefixN : Nat → Nat → List Nat → Bool
 | 0, _, _ => true
 | m + 1, i, a :: l => Nat.beq a i && prefixN m (i + 1) l
 | _ + 1, _, [] => false
def nthU : List UV → Nat → UV
 | [], _ => .undef
 | v :: _, 0 => v
 | _ :: l, n + 1 => nthU l n
def setU : List UV → Nat → UV → List UV
 | [], _, _ => []
 | _ :: l, 0, v => v :: l
 | x :: l, n + 1, v => x :: setU l n v
def atP : UV → List Nat → UV
 | v, [] => v
 | .agg cs, i :: p => atP (nthU cs i) p
 | .tuple cs, i :: p => atP (nthU cs i) p
 | _, _ :: _ => .undef
def setP : UV → List Nat → UV → UV
 | _, [], u => u
 | .agg cs, i :: p, u => .agg (setU cs i (setP (nthU cs i) p u))
 | .tuple cs, i :: p, u => .tuple (setU cs i (setP (nthU cs i) p u))
 | v, _ :: _, _ => v
def rangeUp : Nat → Nat → List Nat
 | 0, _ => []
 | n + 1, i => i :: rangeUp n (i + 1)
def refsOf (s : USt) : List Nat → List Nat
 | [] => []
 | o :: l => (s.get o).refs ++ refsOf s l
def gcIds (m : Nat) (e : UEnv) (s : USt) : List Nat := reach s 500 (refsOf s (rangeUp m 0) ++ UV.refsL e) (rangeUp m 0)
def noOwn : List UV → Bool
 | [] => true
 | .own _ :: _ => false
 | _ :: l => noOwn l
def toIf (m : Nat) (s : USt) (ts : List Nat) (fts : List FT) : UV → Option (D × Option Nat)
 | .niliface => some (.nil, none)
 | .ifz ts' fts' d => match natsEq ts ts' && FT.sames fts fts' with
  | true => some (d, none)
  | false => none
 | .iface t u => match lookT ts fts t with
  | some (.ptr fts') => match u with
   | .ptr p 0 => match s.get p with
    | .obj cs => match toDs s fts' cs, Nat.ble m p && noOwn cs with
     | some ds, true => some (.row [[.int t, .row [ds]]], some p)
     | _, _ => none
    | _ => none
   | u => match toP (.ptr fts') u with
    | some d => some (.row [[.int t, d]], none)
    | none => none
  | some ft => match toP ft u with
   | some d => some (.row [[.int t, d]], none)
   | none => none
  | none => none
 | _ => none
def dropN (p : Nat) : List Nat → List Nat
 | [] => []
 | a :: l => match Nat.beq a p with
  | true => dropN p l
  | false => a :: dropN p l
def allBut (s : USt) (p : Nat) : List Nat := dropN p (rangeUp s.len 0)
def gstep (m : Nat) : Gh → UEnv × USt → Option (UEnv × USt)
 | .live k, (e, s) => some (maskU k e, s)
 | .keep ids, (e, s) => match nodupN ids && allLt ids s.len && prefixN m 0 ids with
  | true => some (UV.picks ids e, s.pick ids ids)
  | false => none
 | .gc, (e, s) => match nodupN (gcIds m e s) && allLt (gcIds m e s) s.len && prefixN m 0 (gcIds m e s) with
  | true => some (UV.picks (gcIds m e s) e, s.pick (gcIds m e s) (gcIds m e s))
  | false => none
 | .ownT t fts, (e, s) => match e.get t with
  | .nilslice => some (e.set t (.own s.len), s.push (.row fts []))
  | _ => some (e, s)
 | .ownC o f fts, (e, s) => match s.get o with
  | .obj cs => match nthU cs f with
   | .nilslice => some (e, (s.push (.row fts [])).upd o (.obj (setU cs f (.own s.len))))
   | _ => some (e, s)
  | _ => some (e, s)
 | .fzT t fts, (e, s) => match e.get t with
  | .nilslice => some (e.set t (.fz fts [] false), s)
  | .fz fts' es _ => some (e.set t (.fz fts' es false), s)
  | .own o => match rowOf (s.get o) with
   | some (fts', es) => some (e.set t (.fz fts' es false), freeze1 s (.own o))
   | none => none
  | _ => some (e, s)
 | .fzC o f fts, (e, s) => match s.get o with
  | .obj cs => match nthU cs f with
   | .nilslice => some (e, s.upd o (.obj (setU cs f (.fz fts [] false))))
   | .fz fts' es _ => some (e, s.upd o (.obj (setU cs f (.fz fts' es false))))
   | .own p => match rowOf (s.get p) with
    | some (fts', es) => some (e, (freeze1 s (.own p)).upd o (.obj (setU cs f (.fz fts' es false))))
    | none => none
   | _ => some (e, s)
  | _ => some (e, s)
 | .ownP t p fts, (e, s) => match atP (e.get t) p with
  | .nilslice => some (e.set t (setP (e.get t) p (.own s.len)), s.push (.row fts []))
  | _ => some (e, s)
 | .fzP t p fts, (e, s) => match atP (e.get t) p with
  | .nilslice => some (e.set t (setP (e.get t) p (.fz fts [] false)), s)
  | .fz fts' es _ => some (e.set t (setP (e.get t) p (.fz fts' es false)), s)
  | .nn fts' es => some (e.set t (setP (e.get t) p (.fz fts' es false)), s)
  | .own o => match rowOf (s.get o) with
   | some (fts', es) => some (e.set t (setP (e.get t) p (.fz fts' es false)), freeze1 s (.own o))
   | none => none
  | _ => some (e, s)
 | .ifC o f ts fts, (e, s) => match s.get o with
  | .obj cs => match toIf m s ts fts (nthU cs f) with
   | some (d, none) => some (e, s.upd o (.obj (setU cs f (.ifz ts fts d))))
   | some (d, some p) =>
    match nodupN (allBut s p) && allLt (allBut s p) s.len && prefixN m 0 (allBut s p), idx (allBut s p) o with
    | true, some o2 => some (UV.picks (allBut s p) e, (s.pick (allBut s p) (allBut s p)).upd o2 (.obj (setU (UV.picks (allBut s p) cs) f (.ifz ts fts d))))
    | _, _ => none
   | none => none
  | _ => none
 | .pownC o f fts, (e, s) => match s.get o with
  | .obj cs => match nthU cs f with
   | .nilslice => some (e, (s.push (.pool fts [] none)).upd o (.obj (setU cs f (.pown s.len))))
   | _ => some (e, s)
  | _ => some (e, s)
 | .ifP t q ts fts, (e, s) => match toIf m s ts fts (atP (e.get t) q) with
  | some (d, none) => some (e.set t (setP (e.get t) q (.ifz ts fts d)), s)
  | some (d, some p) =>
   match nodupN (allBut s p) && allLt (allBut s p) s.len && prefixN m 0 (allBut s p) with
   | true => some (UEnv.set (UV.picks (allBut s p) e) t (setP ((e.get t).pick (allBut s p)) q (.ifz ts fts d)), s.pick (allBut s p) (allBut s p))
   | false => none
  | none => none
def gsteps (m : Nat) : List Gh → UEnv × USt → Option (UEnv × USt)
 | [], q => some q
 | g :: gs, q => match gstep m g q with
  | some q => gsteps m gs q
  | none => none
def bitsM : Nat → Nat → List Bool
 | 0, _ => []
 | k + 1, b => Nat.beq (b % 2) 1 :: bitsM k (b / 2)
def packM : List Bool → UEnv → List UV
 | [], _ => []
 | true :: m, v :: e => v :: packM m e
 | true :: m, [] => .undef :: packM m []
 | false :: m, _ :: e => packM m e
 | false :: m, [] => packM m []
def unpackM : List Bool → List UV → UEnv
 | [], _ => []
 | true :: m, v :: vs => v :: unpackM m vs
 | true :: m, [] => .undef :: unpackM m []
 | false :: m, vs => .undef :: unpackM m vs
def pkP (m : List Bool) (told : ToldP) : ToldP := fun R e s K => told R (packM m e) s K
section
variable {P : Program} {c : Cx} {h : VHeap} {s : USt}
theorem nthU_eq (l : List UV) (n : Nat) : nthU l n = l.getD n .undef := by
 induction l generalizing n with
 | nil => simp [nthU]
 | cons v l ih => cases n with
  | zero => simp [nthU]
  | succ n => simp [nthU, ih]
theorem setU_rel {g : VG} {us : List UV} {vs : List VV} (hr : RVs c g us vs) (n : Nat) {u : UV} (hu : ∀ v, vs[n]? = some v → RV c g u v) : RVs c g (setU us n u) vs := by
 induction us generalizing vs n with
 | nil => exact hr
 | cons x us ih =>
  have := hr.1
  match vs, this, hr with
  | v :: vs, _, hr =>
   cases n with
   | zero => exact RVs.cons (hu v rfl) hr.tail
   | succ n => exact RVs.cons hr.head (ih hr.tail n (fun w hw => hu w (by simpa using hw)))
theorem nth_rel {g : VG} {us : List UV} {vs : List VV} (hr : RVs c g us vs) {n : Nat} {v : VV} (hv : vs[n]? = some v) : RV c g (nthU us n) v := by
 rw [nthU_eq]
 have : n < us.length := by rw [hr.1]; exact (List.getElem?_eq_some_iff.1 hv).1
 rw [List.getD_eq_getElem?_getD, List.getElem?_eq_getElem this]
 exact hr.2 n _ v (List.getElem?_eq_getElem this) hv
theorem setU_len (l : List UV) (n : Nat) (u : UV) : (setU l n u).length = l.length := by
 induction l generalizing n with
 | nil => rfl
 | cons v l ih => cases n <;> simp [setU, ih]
theorem prefixN_get : ∀ (m i : Nat) (l : List Nat), prefixN m i l = true → m ≤ l.length ∧ ∀ j, j < m → l[j]? = some (i + j)
 | 0, _, _, _ => ⟨Nat.zero_le _, fun j hj => by omega⟩
 | m + 1, i, a :: l, h => by
  simp only [prefixN, Bool.and_eq_true] at h
  obtain ⟨h1, h2⟩ := prefixN_get m (i + 1) l h.2
  refine ⟨by simp; omega, fun j hj => ?_⟩
  cases j with
  | zero => simp [Nat.eq_of_beq_eq_true h.1]
  | succ j => simp only [List.getElem?_cons_succ]; rw [h2 j (by omega)]; congr 1; omega
 | m + 1, _, [], h => by simp [prefixN] at h
theorem pickM {m : Nat} {ids : List Nat} (hm : prefixN m 0 ids = true) : LaterM m c h (c.pick ids) h (fun _ => False) := by
 obtain ⟨h1, h2⟩ := prefixN_get m 0 ids hm
 refine ⟨h1, fun o ho => ?_, fun _ h => h, Nat.le_refl _, fun _ _ h _ => h, fun _ k h => ⟨k, h, rfl⟩, fun _ es h => ⟨es, h⟩, fun _ h => .inl h, fun o f hf => ?_, fun o f ho hf => by
  have := h2 o ho
  rw [Nat.zero_add] at this
  simpa only [Cx.pick, this] using hf⟩
 ·have := h2 o ho
  rw [Nat.zero_add] at this
  exact Cx.pick_ρ this
 ·obtain ⟨p, _, hp⟩ := Cx.pick_fams ⟨o, hf⟩
  exact .inr ⟨p, hp⟩
theorem get_picks (ids : List Nat) (e : UEnv) (t : Nat) : UEnv.get (UV.picks ids e) t = (UEnv.get e t).pick ids := by
 induction e generalizing t with
 | nil => simp [UV.picks, UEnv.get, UV.pick]
 | cons v e ih => cases t with
  | zero => simp [UV.picks, UEnv.get]
  | succ t => simp [UV.picks, UEnv.get, ih]
theorem get_mask : ∀ (k : List Bool) (e : UEnv) (t : Nat), UEnv.get (maskU k e) t = UEnv.get e t ∨ UEnv.get (maskU k e) t = .undef
 | [], e, t => by cases e <;> exact .inr (by simp [maskU, UEnv.get])
 | true :: k, [], 0 => .inr rfl
 | false :: k, [], 0 => .inr rfl
 | true :: k, [], t + 1 => by simpa [maskU, UEnv.get] using get_mask k [] t
 | false :: k, [], t + 1 => by simpa [maskU, UEnv.get] using get_mask k [] t
 | true :: k, v :: e, 0 => .inl rfl
 | false :: k, v :: e, 0 => .inr rfl
 | true :: k, v :: e, t + 1 => by simpa [maskU, UEnv.get] using get_mask k e t
 | false :: k, v :: e, t + 1 => by simpa [maskU, UEnv.get] using get_mask k e t
theorem LaterM.mono {m : Nat} {c' : Cx} {h' : VHeap} {T T1 : Nat → Prop} (hL : LaterM m c h c' h' T) (hT : ∀ f, T f → T1 f) : LaterM m c h c' h' T1 :=
 ⟨hL.n, hL.ρ, hL.K, hL.next, fun b o hb hn => hL.same b o hb (fun ht => hn (hT _ ht)), hL.fam, hL.mp, hL.newK, hL.newφ, hL.oldφ⟩
theorem REnv.set' {g : VG} {e : UEnv} {e' : Env} (he : REnv c g e e') (t : Nat) {u : UV} (hu : RV c g u (Env.get e' t)) : REnv c g (e.set t u) e' := by
 intro q
 rw [UEnv.get_set]
 split
 ·rename_i hq; subst hq; exact hu
 ·exact he q
theorem addNil (hs : RSt c h s) (fts : List FT) (T : Nat → Prop) : RSt (c.add .nilslice nof) h (s.push (.row fts [])) ∧ Later c h (c.add .nilslice nof) h T ∧ RV (c.add .nilslice nof) h.get (.own s.len) .nilslice := by
 refine ⟨hs.add hs.wf (Nat.le_refl _) (fun _ _ h => h) (fun f e => by cases e) (.rowNil fts), hs.laterAdd _ _ (Nat.le_refl _) (fun _ _ h => h) (fun f e => by cases e) T, .own _ _ ?_ ?_ (.inl rfl)⟩
 ·show s.len < c.n + 1; rw [hs.len]; exact Nat.lt_succ_self _
 ·show (if s.len = c.n then _ else _) = _; rw [if_pos hs.len]
theorem addPool (hs : RSt c h s) (fts : List FT) (T : Nat → Prop) : RSt (c.add (.tuple [.nilslice]) nof) h (s.push (.pool fts [] none)) ∧ Later c h (c.add (.tuple [.nilslice]) nof) h T ∧ RV (c.add (.tuple [.nilslice]) nof) h.get (.pown s.len) .nilslice := by
 refine ⟨hs.add hs.wf (Nat.le_refl _) (fun _ _ h => h) (fun f e => by cases e) (.poolNil fts), hs.laterAdd _ _ (Nat.le_refl _) (fun _ _ h => h) (fun f e => by cases e) T, .pown _ _ [] ?_ ?_ (.inl rfl)⟩
 ·show s.len < c.n + 1; rw [hs.len]; exact Nat.lt_succ_self _
 ·show (if s.len = c.n then _ else _) = _; rw [if_pos hs.len]
theorem turn_cells (hs : RSt c h s) {o : Nat} {cs cs' : List UV} (ho : s.get o = .obj cs) (hl : cs'.length = cs.length) (hc : ∀ vs, RVs c h.get cs vs → RVs c h.get cs' vs) : RSt c h (s.upd o (.obj cs')) := by
 have hro := hs.obj o
 rw [ho] at hro
 generalize hv : c.ρ o = v at hro
 generalize hf : c.φ o = fm at hro
 cases hro with
 | obj _ b k xs hg hes hz hro hso hx hr =>
  refine hs.turn hf hs.wf (Later.refl _ _ _) ?_
  rw [hv]
  exact .obj cs' b k xs hg hes (by rw [hl]; exact hz) hro hso hx (hc xs hr)
theorem own_data (hs : RSt c h s) {p : Nat} {fts : List FT} {es : List (List D)} (hrow : rowOf (s.get p) = some (fts, es)) {v : VV} (hr : RV c h.get (.own p) v) :
  ∃ c1, RSt c1 h (freeze1 s (.own p)) ∧ Later c h c1 h (fun _ => False) ∧ RV c1 h.get (.fz fts es false) v := by
 obtain ⟨c1, s1, l1, n1, r1, p1, d1⟩ := freeze1_rel hs (.own p)
 exact ⟨c1, s1, l1, .fz fts es false v (d1 v hr (.row 0 fts) (.row es) (by simp only [toD, hrow, FT.sames_refl])) (fun e => by cases e)⟩
theorem setP_rel {c2 : Cx} {g g2 : VG} (hmono : ∀ {u : UV} {v : VV}, RV c g u v → RV c2 g2 u v) : ∀ (p : List Nat) {v : UV} {x : VV}, RV c g v x → ∃ y, RV c g (atP v p) y ∧ (atP v p ≠ .undef → ∀ u, RV c2 g2 u y → RV c2 g2 (setP v p u) x) := by
 intro p
 induction p with
 | nil => intro v x hr; exact ⟨x, hr, fun _ u hu => hu⟩
 | cons i p ih =>
  intro v x hr
  have lists : ∀ (cs : List UV) (vs : List VV), RVs c g cs vs → ∃ y, RV c g (atP (nthU cs i) p) y ∧ (atP (nthU cs i) p ≠ .undef → ∀ u, RV c2 g2 u y → RVs c2 g2 (setU cs i (setP (nthU cs i) p u)) vs) := by
   intro cs vs hl
   have hl2 : RVs c2 g2 cs vs := ⟨hl.1, fun j a b ha hb => hmono (hl.2 j a b ha hb)⟩
   cases hv : vs[i]? with
   | none =>
    have hn : nthU cs i = .undef := by
     rw [nthU_eq, List.getD_eq_getElem?_getD, List.getElem?_eq_none (by rw [hl.1]; exact List.getElem?_eq_none_iff.1 hv)]; rfl
    rw [hn]
    exact ⟨.nilptr, by cases p <;> exact .undef _, fun h => absurd (by cases p <;> rfl) h⟩
   | some w =>
    obtain ⟨y, y1, y2⟩ := ih (nth_rel hl hv)
    exact ⟨y, y1, fun hne u hu => setU_rel hl2 i (fun v' hv' => by rw [hv] at hv'; cases hv'; exact y2 hne u hu)⟩
  cases v with
  | agg cs =>
   cases hr with
   | agg _ vs hl hp =>
    obtain ⟨y, y1, y2⟩ := lists cs vs ⟨hl, hp⟩
    exact ⟨y, y1, fun hne u hu => RV.agg' (y2 hne u hu)⟩
  | tuple cs =>
   cases hr with
   | tuple _ vs hl hp =>
    obtain ⟨y, y1, y2⟩ := lists cs vs ⟨hl, hp⟩
    exact ⟨y, y1, fun hne u hu => RV.tuple' (y2 hne u hu)⟩
  | _ => exact ⟨.nilptr, .undef _, fun h => absurd rfl h⟩
theorem dropN_mem {p x : Nat} : ∀ {l : List Nat}, x ∈ dropN p l → x ∈ l ∧ x ≠ p
 | [], h => by cases h
 | a :: l, h => by
  unfold dropN at h
  split at h
  ·obtain ⟨h1, h2⟩ := dropN_mem h
   exact ⟨List.mem_cons_of_mem _ h1, h2⟩
  ·rename_i hb
   rcases List.mem_cons.1 h with rfl | h
   ·exact ⟨List.mem_cons_self, by rintro rfl; rw [Nat.beq_refl] at hb; cases hb⟩
   ·obtain ⟨h1, h2⟩ := dropN_mem h
    exact ⟨List.mem_cons_of_mem _ h1, h2⟩
def Cx.more (c : Cx) (f : Nat) : Cx := ⟨c.n, c.ρ, fun x => c.K x ∨ x = f, c.φ⟩
theorem RV.sameK {c c2 : Cx} {g : VG} (hn : c.n = c2.n) (hρ : c.ρ = c2.ρ) (hK : ∀ f, c.K f → c2.K f) {u : UV} {v : VV} (hr : RV c g u v) : RV c2 g u v := by
 have hk : Keeps g c.K g c2.K := ⟨fun _ _ h _ => h, hK⟩
 induction hr with
 | undef v => exact .undef v
 | bool b => exact .bool b
 | int k n => exact .int k n
 | str s => exact .str s
 | nilptr => exact .nilptr
 | ptr o f b ho h => exact .ptr o f b (by rw [← hn]; exact ho) (by rw [← hρ]; exact h)
 | aptr fts o g n j f b ho h hj => exact .aptr fts o g n j f b (by rw [← hn]; exact ho) (by rw [← hρ]; exact h) hj
 | eptr o i f b i0 n cp z ho h hi => exact .eptr o i f b i0 n cp z (by rw [← hn]; exact ho) (by rw [← hρ]; exact h) hi
 | fptr fts es i f b i0 n cp z h hi => exact .fptr fts es i f b i0 n cp z (h.keep hk) hi
 | nilslice => exact .nilslice
 | own o v ho h hv => exact .own o v (by rw [← hn]; exact ho) (by rw [← hρ]; exact h) hv
 | fz fts es cut v h hc => exact .fz fts es cut v (h.keep hk) hc
 | nn fts es v h hv => exact .nn fts es v (h.keep hk) hv
 | nilmap => exact .nilmap
 | map o b ho h => exact .map o b (by rw [← hn]; exact ho) (by rw [← hρ]; exact h)
 | nilfunc => exact .nilfunc
 | func f => exact .func f
 | pz fts d v h => exact .pz fts d v (h.keep hk)
 | pn fts ds f b h => exact .pn fts ds f b (h.keep hk)
 | ifz ts fts d v h => exact .ifz ts fts d v (h.keep hk)
 | niliface => exact .niliface
 | pown o v ps ho h hv => exact .pown o v ps (by rw [← hn]; exact ho) (by rw [← hρ]; exact h) hv
 | pe o i b i0 n cp z ps ho h hi => exact .pe o i b i0 n cp z ps (by rw [← hn]; exact ho) (by rw [← hρ]; exact h) hi
 | pp o i b sv ps ho h hp => exact .pp o i b sv ps (by rw [← hn]; exact ho) (by rw [← hρ]; exact h) hp
 | iface t u v _ ih => exact .iface t u v ih
 | agg us vs hl _ ih => exact .agg us vs hl ih
 | tuple us vs hl _ ih => exact .tuple us vs hl ih
theorem RO.moreK {c c2 : Cx} {g : VG} (hn : c.n = c2.n) (hρ : c.ρ = c2.ρ) (hK : ∀ f, c.K f → c2.K f) {u : UO} {v : VV} {fm : Nat → Prop} (hr : RO c g u v fm) : RO c2 g u v fm := by
 have hk : Keeps g c.K g c2.K := ⟨fun _ _ h _ => h, hK⟩
 cases hr with
 | obj cs b k xs hg hes hz hro hso hx hr => exact .obj cs b k xs hg hes hz hro hso hx ⟨hr.1, fun i u v a b => (hr.2 i u v a b).sameK hn hρ hK⟩
 | rowNil fts => exact .rowNil fts
 | rowCut fts b i z k hg hK' hz hz' h0 hi => exact .rowCut fts b i z k hg (hK _ hK') hz hz' h0 hi
 | row fts es b i n cp z k hg hro hz hz' h0 hn hcp hs => exact .row fts es b i n cp z k hg hro hz hz' h0 hn hcp (hs.keep hk)
 | old fts es v h => exact .old fts es v (h.keep hk)
 | map kf ag fts es b ves hg hk' hl h =>
  refine .map kf ag fts es b ves hg hk' hl fun i p q a b => ?_
  obtain ⟨h1, xs, h2, h3⟩ := h i p q a b
  exact ⟨h1.keep hk, xs, h2, h3.keep hk⟩
 | poolNil fts => exact .poolNil fts
 | pool fts es x b i n cp z k ps fs hg hro hz hz' h0 hn hcp hin hc hff hE => exact .pool fts es x b i n cp z k ps fs hg hro hz hz' h0 hn hcp hin hc hff (hE.keep hk fun _ _ _ _ h => h)
 | lent v => exact .lent v
 | gone v hv => exact .gone v hv
theorem RSt.more (hs : RSt c h s) {f : Nat} (hf : ∀ o, ¬ c.φ o f) (hlt : f < h.next) : RSt (c.more f) h s :=
 ⟨hs.wf, hs.len, fun o => RO.moreK (c := c) (c2 := c.more f) rfl rfl (fun x (h : c.K x) => (Or.inl h : c.K x ∨ x = f)) (hs.obj o), hs.dis, fun o x ho hK => by
  rcases hK with hK | rfl
  ·exact hs.ndK o x ho hK
  ·exact hf o ho, hs.ltφ, fun x hx => by
  rcases hx with hx | rfl
  ·exact hs.ltK x hx
  ·exact hlt, hs.und⟩
theorem noOwn_not {us : List UV} (hn : noOwn us = true) : ∀ o, UV.own o ∉ us := by
 induction us with
 | nil => intro o h; cases h
 | cons u us ih =>
  have h2 : noOwn us = true ∧ ∀ o, u ≠ .own o := by
   cases u <;> simp [noOwn] at hn ⊢ <;> exact hn
  intro o h
  rcases List.mem_cons.1 h with h | h
  ·exact h2.2 o h.symm
  ·exact ih h2.1 o h
theorem toDs_none {us : List UV} {vs : List VV} {fts : List FT} {ds : List D} (hn : noOwn us = true) (hr : RVs c h.get us vs) (hd : toDs s fts us = some ds) : RDL h.get c.K fts ds vs := by
 refine toDs_pt hd hr.1 (fun i u v hu hv ft d hd => ?_)
 have hno : ∀ o, u ≠ .own o := fun o e => noOwn_not hn o (e ▸ List.mem_of_getElem? hu)
 exact toD_rel hno (hr.2 i u v hu hv) hd
theorem toIf_none {g : VG} {m : Nat} {ts : List Nat} {fts : List FT} {u : UV} {d : D} {v : VV} (h : toIf m s ts fts u = some (d, none)) (hr : RV c g u v) : RD g c.K (.ifc ts fts) d v := by
 unfold toIf at h
 split at h
 ·simp only [Option.some.injEq, Prod.mk.injEq, and_true] at h; subst h; cases hr; exact .inil _ _
 ·split at h
  ·rename_i hk
   simp only [Option.some.injEq, Prod.mk.injEq, and_true] at h; subst h
   simp only [Bool.and_eq_true] at hk
   have := FT.sames_eq _ _ hk.2; subst this
   have := natsEq_eq _ _ hk.1; subst this
   cases hr with
   | ifz _ _ _ _ hrd => exact hrd
  ·cases h
 ·rename_i t u'
  cases hr with
  | iface _ _ v' hr' =>
   split at h
   ·rename_i fts' hl
    split at h
    ·split at h
     ·split at h
      ·simp at h
      ·cases h
     ·cases h
    ·split at h
     ·rename_i d' hp
      simp only [Option.some.injEq, Prod.mk.injEq, and_true] at h; subst h
      exact .ifc _ _ t _ d' v' hl (toP_rel hp hr')
     ·cases h
   ·rename_i ft _ hl
    split at h
    ·rename_i d' hp
     simp only [Option.some.injEq, Prod.mk.injEq, and_true] at h; subst h
     exact .ifc _ _ t _ d' v' hl (toP_rel hp hr')
    ·cases h
   ·cases h
 ·cases h
theorem toIf_some {m p : Nat} {ts : List Nat} {fts : List FT} {u : UV} {d : D} (h : toIf m s ts fts u = some (d, some p)) :
  ∃ t fts' cs ds, u = .iface t (.ptr p 0) ∧ lookT ts fts t = some (.ptr fts') ∧ s.get p = .obj cs ∧ toDs s fts' cs = some ds ∧ noOwn cs = true ∧ d = .row [[.int t, .row [ds]]] := by
 unfold toIf at h
 split at h
 ·simp at h
 ·split at h <;> simp at h
 ·rename_i t u'
  split at h
  ·rename_i fts' hl
   split at h
   ·rename_i q
    split at h
    ·rename_i cs hcs
     split at h
     ·rename_i ds hds hb
      simp only [Option.some.injEq, Prod.mk.injEq] at h
      obtain ⟨rfl, rfl⟩ := h
      simp only [Bool.and_eq_true] at hb
      exact ⟨t, fts', cs, ds, rfl, hl, hcs, hds, hb.2, rfl⟩
     ·cases h
    ·cases h
   ·split at h <;> simp at h
  ·split at h <;> simp at h
  ·cases h
 ·cases h
theorem nthU_picks (ids : List Nat) (us : List UV) (n : Nat) : nthU (UV.picks ids us) n = (nthU us n).pick ids := by
 induction us generalizing n with
 | nil => simp [UV.picks, nthU, UV.pick]
 | cons v us ih => cases n with
  | zero => simp [UV.picks, nthU]
  | succ n => simp [UV.picks, nthU, ih]
theorem setP_pick {c2 : Cx} {g : VG} {ids : List Nat} (hmono : ∀ {u : UV} {v : VV}, RV c g u v → RV c2 g (u.pick ids) v) : ∀ (p : List Nat) {v : UV} {x : VV}, RV c g v x → ∃ y, RV c g (atP v p) y ∧ (atP v p ≠ .undef → ∀ u, RV c2 g u y → RV c2 g (setP (v.pick ids) p u) x) := by
 intro p
 induction p with
 | nil => intro v x hr; exact ⟨x, hr, fun _ u hu => by cases hv : v.pick ids <;> exact hu⟩
 | cons i p ih =>
  intro v x hr
  have lists : ∀ (cs : List UV) (vs : List VV), RVs c g cs vs → ∃ y, RV c g (atP (nthU cs i) p) y ∧ (atP (nthU cs i) p ≠ .undef → ∀ u, RV c2 g u y → RVs c2 g (setU (UV.picks ids cs) i (setP (nthU (UV.picks ids cs) i) p u)) vs) := by
   intro cs vs hl
   have hl2 : RVs c2 g (UV.picks ids cs) vs := by
    refine ⟨by rw [picks_len]; exact hl.1, fun j a b ha hb => ?_⟩
    have hj : j < cs.length := by rw [hl.1]; exact (List.getElem?_eq_some_iff.1 hb).1
    have e1 : nthU (UV.picks ids cs) j = a := by rw [nthU_eq, List.getD_eq_getElem?_getD, ha]; rfl
    rw [← e1, nthU_picks]
    exact hmono (nth_rel hl hb)
   cases hv : vs[i]? with
   | none =>
    have hn : nthU cs i = .undef := by
     rw [nthU_eq, List.getD_eq_getElem?_getD, List.getElem?_eq_none (by rw [hl.1]; exact List.getElem?_eq_none_iff.1 hv)]; rfl
    rw [hn]
    exact ⟨.nilptr, by cases p <;> exact .undef _, fun h => absurd (by cases p <;> rfl) h⟩
   | some w =>
    obtain ⟨y, y1, y2⟩ := ih (nth_rel hl hv)
    exact ⟨y, y1, fun hne u hu => setU_rel hl2 i (fun v' hv' => by rw [hv] at hv'; cases hv'; rw [nthU_picks]; exact y2 hne u hu)⟩
  cases v with
  | agg cs =>
   cases hr with
   | agg _ vs hl hp =>
    obtain ⟨y, y1, y2⟩ := lists cs vs ⟨hl, hp⟩
    exact ⟨y, y1, fun hne u hu => by simp only [UV.pick, setP]; exact RV.agg' (y2 hne u hu)⟩
  | tuple cs =>
   cases hr with
   | tuple _ vs hl hp =>
    obtain ⟨y, y1, y2⟩ := lists cs vs ⟨hl, hp⟩
    exact ⟨y, y1, fun hne u hu => by simp only [UV.pick, setP]; exact RV.tuple' (y2 hne u hu)⟩
  | _ => exact ⟨.nilptr, .undef _, fun h => absurd rfl h⟩
theorem swallow (hs : RSt c h s) {m p : Nat} (hm : m ≤ c.n) {ids : List Nat} (hok : (nodupN ids && allLt ids s.len && prefixN m 0 ids) = true) (hp : p ∉ ids) {cs : List UV} {fts : List FT} {ds : List D} (hcs : s.get p = .obj cs) (hn : noOwn cs = true) (hd : toDs s fts cs = some ds) :
  ∃ c2, RSt c2 h (s.pick ids ids) ∧ LaterM m c h c2 h c.fams ∧ (∀ {u : UV} {v : VV}, RV c h.get u v → RV c2 h.get (u.pick ids) v) ∧ (∀ v, RV c h.get (.ptr p 0) v → RD h.get c2.K (.ptr fts) (.row [ds]) v) ∧
   (∀ j o, ids[j]? = some o → c2.ρ j = c.ρ o) ∧ (∀ f, c.K f → c2.K f) := by
 simp only [Bool.and_eq_true] at hok
 have hnd := nodupN_iff hok.1.1
 have hro := hs.obj p
 rw [hcs] at hro
 generalize hv : c.ρ p = v at hro
 generalize hf : c.φ p = fm at hro
 cases hro with
 | obj _ b k xs hg hes hz hro hso hx hr =>
  have hpk := hs.pick hnd
  have hno : ∀ o, ¬ (c.pick ids).φ o k.fam := by
   intro o ho
   obtain ⟨q, hq, hqf⟩ := Cx.pick_fams ⟨o, ho⟩
   have := hs.dis q p _ hqf (isOne hf)
   subst this
   exact hp hq
  have hmono : ∀ {u : UV} {v : VV}, RV c h.get u v → RV ((c.pick ids).more k.fam) h.get (u.pick ids) v := fun hr => RV.sameK (c := c.pick ids) (c2 := (c.pick ids).more k.fam) rfl rfl (fun f (hf : (c.pick ids).K f) => (Or.inl hf : (c.pick ids).K f ∨ f = k.fam)) hr.pick
  refine ⟨(c.pick ids).more k.fam, hpk.more hno (hs.ltφ p _ (isOne hf)), ?_, hmono, ?_, fun j o hj => Cx.pick_ρ hj, fun f hf => Or.inl hf⟩
  ·have h1 : LaterM m c h (c.pick ids) h c.fams := (pickM hok.2).mono (fun _ h => h.elim)
   refine ⟨h1.n, h1.ρ, fun f hf => Or.inl (h1.K f hf), h1.next, h1.same, h1.fam, h1.mp, fun f hf => ?_, h1.newφ, h1.oldφ⟩
   rcases hf with hf | rfl
   ·exact h1.newK f hf
   ·exact .inr (.inr ⟨p, isOne hf⟩)
  ·intro w hw
   cases hw with
   | ptr _ _ b' ho hb' =>
    rw [hv] at hb'; cases hb'
    have hrdl := toDs_none hn hr hd
    have hk : Keeps h.get c.K h.get ((c.pick ids).more k.fam).K := ⟨fun _ _ h _ => h, fun f hf => Or.inl hf⟩
    have hrdl := hrdl.keep hk
    exact .ptr fts ds b k xs hg (Or.inr rfl) hes hrdl.len hrdl.lenv hrdl.at_
theorem allBut_not (s : USt) (p : Nat) : p ∉ allBut s p := fun h => (dropN_mem h).2 rfl
theorem gstep_rel {m : Nat} {g : Gh} {e e2 : UEnv} {s2 : USt} {e' : Env} (hm : m ≤ c.n) (hs : RSt c h s) (he : REnv c h.get e e') (hg : gstep m g (e, s) = some (e2, s2)) : ∃ c2, RSt c2 h s2 ∧ REnv c2 h.get e2 e' ∧ LaterM m c h c2 h c.fams := by
 have base : ∃ c2, RSt c2 h s ∧ REnv c2 h.get e e' ∧ LaterM m c h c2 h c.fams := ⟨c, hs, he, LaterM.refl hm _ _⟩
 cases g with
 | live k =>
  simp only [gstep, Option.some.injEq, Prod.mk.injEq] at hg
  obtain ⟨rfl, rfl⟩ := hg
  refine ⟨c, hs, fun t => ?_, LaterM.refl hm _ _⟩
  rcases get_mask k e t with h1 | h1 <;> rw [h1]
  ·exact he t
  ·exact .undef _
 | keep ids =>
  simp only [gstep] at hg
  split at hg
  ·rename_i hok
   simp only [Bool.and_eq_true] at hok
   simp only [Option.some.injEq, Prod.mk.injEq] at hg
   obtain ⟨rfl, rfl⟩ := hg
   exact ⟨c.pick ids, hs.pick (nodupN_iff hok.1.1), fun t => by rw [get_picks]; exact (he t).pick, (pickM hok.2).mono (fun _ h => h.elim)⟩
  ·cases hg
 | gc =>
  simp only [gstep] at hg
  split at hg
  ·rename_i hok
   simp only [Bool.and_eq_true] at hok
   simp only [Option.some.injEq, Prod.mk.injEq] at hg
   obtain ⟨rfl, rfl⟩ := hg
   exact ⟨c.pick _, hs.pick (nodupN_iff hok.1.1), fun t => by rw [get_picks]; exact (he t).pick, (pickM hok.2).mono (fun _ h => h.elim)⟩
  ·cases hg
 | ownT t fts =>
  simp only [gstep] at hg
  split at hg
  ·rename_i ht
   simp only [Option.some.injEq, Prod.mk.injEq] at hg
   obtain ⟨rfl, rfl⟩ := hg
   obtain ⟨a1, a2, a3⟩ := addNil hs fts (fun _ => False)
   refine ⟨_, a1, (he.later a2 (fun _ _ h => h)).set' t ?_, (a2.mono (fun _ h => h.elim)).toM hm⟩
   have := he t
   rw [ht] at this
   generalize Env.get e' t = v at this ⊢
   cases this
   exact a3
  ·simp only [Option.some.injEq, Prod.mk.injEq] at hg; obtain ⟨rfl, rfl⟩ := hg; exact base
 | pownC o f fts =>
  simp only [gstep] at hg
  split at hg
  ·rename_i cs hcs
   split at hg
   ·rename_i hf
    simp only [Option.some.injEq, Prod.mk.injEq] at hg
    obtain ⟨rfl, rfl⟩ := hg
    obtain ⟨a1, a2, a3⟩ := addPool hs fts (fun _ => False)
    have hlt : o < s.len := USt.lt_len (by rw [hcs]; simp)
    have hget : (s.push (.pool fts [] none)).get o = .obj cs := by rw [USt.get_push, if_neg (by omega)]; exact hcs
    refine ⟨_, turn_cells a1 hget (setU_len _ _ _) (fun vs hvs => ?_), he.later a2 (fun _ _ h => h), (a2.mono (fun _ h => h.elim)).toM hm⟩
    refine setU_rel hvs f (fun v hv => ?_)
    have := nth_rel hvs hv
    rw [hf] at this
    cases this
    exact a3
   ·simp only [Option.some.injEq, Prod.mk.injEq] at hg; obtain ⟨rfl, rfl⟩ := hg; exact base
  ·simp only [Option.some.injEq, Prod.mk.injEq] at hg; obtain ⟨rfl, rfl⟩ := hg; exact base
 | ownC o f fts =>
  simp only [gstep] at hg
  split at hg
  ·rename_i cs hcs
   split at hg
   ·rename_i hf
    simp only [Option.some.injEq, Prod.mk.injEq] at hg
    obtain ⟨rfl, rfl⟩ := hg
    obtain ⟨a1, a2, a3⟩ := addNil hs fts (fun _ => False)
    have hlt : o < s.len := USt.lt_len (by rw [hcs]; simp)
    have hget : (s.push (.row fts [])).get o = .obj cs := by rw [USt.get_push, if_neg (by omega)]; exact hcs
    refine ⟨_, turn_cells a1 hget (setU_len _ _ _) (fun vs hvs => ?_), he.later a2 (fun _ _ h => h), (a2.mono (fun _ h => h.elim)).toM hm⟩
    refine setU_rel hvs f (fun v hv => ?_)
    have := nth_rel hvs hv
    rw [hf] at this
    cases this
    exact a3
   ·simp only [Option.some.injEq, Prod.mk.injEq] at hg; obtain ⟨rfl, rfl⟩ := hg; exact base
  ·simp only [Option.some.injEq, Prod.mk.injEq] at hg; obtain ⟨rfl, rfl⟩ := hg; exact base
 | fzT t fts =>
  simp only [gstep] at hg
  split at hg
  ·rename_i ht
   simp only [Option.some.injEq, Prod.mk.injEq] at hg
   obtain ⟨rfl, rfl⟩ := hg
   refine ⟨c, hs, he.set' t ?_, LaterM.refl hm _ _⟩
   have := he t
   rw [ht] at this
   generalize Env.get e' t = v at this ⊢
   cases this
   exact .fz fts [] false _ (.row0 0 fts) (fun e => by cases e)
  ·rename_i fts' es cut ht
   simp only [Option.some.injEq, Prod.mk.injEq] at hg
   obtain ⟨rfl, rfl⟩ := hg
   refine ⟨c, hs, he.set' t ?_, LaterM.refl hm _ _⟩
   have := he t
   rw [ht] at this
   cases this with
   | fz _ _ _ _ hrd hc => exact .fz fts' es false _ hrd (fun e => by cases e)
  ·rename_i o ht
   split at hg
   ·rename_i fts' es hrow
    simp only [Option.some.injEq, Prod.mk.injEq] at hg
    obtain ⟨rfl, rfl⟩ := hg
    have := he t
    rw [ht] at this
    obtain ⟨c1, a1, a2, a3⟩ := own_data hs hrow this
    exact ⟨c1, a1, (he.later a2 (fun _ _ h => h)).set' t a3, (a2.mono (fun _ h => h.elim)).toM hm⟩
   ·cases hg
  ·simp only [Option.some.injEq, Prod.mk.injEq] at hg; obtain ⟨rfl, rfl⟩ := hg; exact base
 | fzC o f fts =>
  simp only [gstep] at hg
  split at hg
  ·rename_i cs hcs
   split at hg
   ·rename_i hf
    simp only [Option.some.injEq, Prod.mk.injEq] at hg
    obtain ⟨rfl, rfl⟩ := hg
    refine ⟨c, turn_cells hs hcs (setU_len _ _ _) (fun vs hvs => setU_rel hvs f (fun v hv => ?_)), he, LaterM.refl hm _ _⟩
    have := nth_rel hvs hv
    rw [hf] at this
    cases this
    exact .fz fts [] false _ (.row0 0 fts) (fun e => by cases e)
   ·rename_i fts' es cut hf
    simp only [Option.some.injEq, Prod.mk.injEq] at hg
    obtain ⟨rfl, rfl⟩ := hg
    refine ⟨c, turn_cells hs hcs (setU_len _ _ _) (fun vs hvs => setU_rel hvs f (fun v hv => ?_)), he, LaterM.refl hm _ _⟩
    have := nth_rel hvs hv
    rw [hf] at this
    cases this with
    | fz _ _ _ _ hrd hc => exact .fz fts' es false _ hrd (fun e => by cases e)
   ·rename_i p hf
    split at hg
    ·rename_i fts' es hrow
     simp only [Option.some.injEq, Prod.mk.injEq] at hg
     obtain ⟨rfl, rfl⟩ := hg
     
     have hro := hs.obj o
     rw [hcs] at hro
     obtain ⟨c1, s1, l1, n1, r1, p1, d1⟩ := freeze1_rel hs (.own p)
     have hget : (freeze1 s (.own p)).get o = .obj cs := by
      by_cases hpo : p = o
      ·subst hpo; rw [hcs] at hrow; cases hrow
      ·rw [freeze1_get (by intro e; cases e; exact hpo rfl)]; exact hcs
     generalize hv : c.ρ o = v at hro
     generalize hfm : c.φ o = fm at hro
     cases hro with
     | obj _ b k xs hgb hes hz hrok hso hx hr =>
      refine ⟨c1, ?_, he.later l1 (fun _ _ h => h), (l1.mono (fun _ h => h.elim)).toM hm⟩
      have hro1 := s1.obj o
      rw [hget, r1, hv] at hro1
      generalize hfm1 : c1.φ o = fm1 at hro1
      cases hro1 with
      | obj _ _ k1 xs1 hgb1 hes1 hz1 hrok1 hso1 hx1 hr1 =>
       rw [hgb] at hgb1
       simp only [Option.some.injEq, VObj.cells.injEq] at hgb1
       subst hgb1
       rw [hes] at hes1
       simp only [List.cons.injEq, and_true] at hes1
       subst hes1
       refine s1.turn hfm1 s1.wf (Later.refl _ _ _) ?_
       rw [r1, hv]
       refine .obj _ b k xs hgb hes (by rw [setU_len]; exact hz) hrok hso hx (setU_rel hr1 f (fun w hw => ?_))
       have h2 := nth_rel hr hw
       rw [hf] at h2
       exact .fz fts' es false w (d1 w h2 (.row 0 fts') (.row es) (by simp only [toD, hrow, FT.sames_refl])) (fun e => by cases e)
    ·cases hg
   ·simp only [Option.some.injEq, Prod.mk.injEq] at hg; obtain ⟨rfl, rfl⟩ := hg; exact base
  ·simp only [Option.some.injEq, Prod.mk.injEq] at hg; obtain ⟨rfl, rfl⟩ := hg; exact base
 | ownP t p fts =>
  simp only [gstep] at hg
  split at hg
  ·rename_i ht
   simp only [Option.some.injEq, Prod.mk.injEq] at hg
   obtain ⟨rfl, rfl⟩ := hg
   obtain ⟨a1, a2, a3⟩ := addNil hs fts (fun _ => False)
   obtain ⟨y, y1, y2⟩ := setP_rel (g := h.get) (g2 := h.get) (fun hr => hr.later a2 (fun _ _ h => h)) p (he t)
   rw [ht] at y1 y2
   cases y1
   exact ⟨_, a1, (he.later a2 (fun _ _ h => h)).set' t (y2 (by simp) _ a3), (a2.mono (fun _ h => h.elim)).toM hm⟩
  ·simp only [Option.some.injEq, Prod.mk.injEq] at hg; obtain ⟨rfl, rfl⟩ := hg; exact base
 | fzP t p fts =>
  simp only [gstep] at hg
  split at hg
  ·rename_i ht
   simp only [Option.some.injEq, Prod.mk.injEq] at hg
   obtain ⟨rfl, rfl⟩ := hg
   obtain ⟨y, y1, y2⟩ := setP_rel (c2 := c) (g := h.get) (g2 := h.get) (fun hr => hr) p (he t)
   rw [ht] at y1 y2
   cases y1
   exact ⟨c, hs, he.set' t (y2 (by simp) _ (.fz fts [] false _ (.row0 0 fts) (fun e => by cases e))), LaterM.refl hm _ _⟩
  ·rename_i fts' es cut ht
   simp only [Option.some.injEq, Prod.mk.injEq] at hg
   obtain ⟨rfl, rfl⟩ := hg
   obtain ⟨y, y1, y2⟩ := setP_rel (c2 := c) (g := h.get) (g2 := h.get) (fun hr => hr) p (he t)
   rw [ht] at y1 y2
   cases y1 with
   | fz _ _ _ _ hrd hc => exact ⟨c, hs, he.set' t (y2 (by simp) _ (.fz fts' es false _ hrd (fun e => by cases e))), LaterM.refl hm _ _⟩
  ·rename_i fts' es ht
   simp only [Option.some.injEq, Prod.mk.injEq] at hg
   obtain ⟨rfl, rfl⟩ := hg
   obtain ⟨y, y1, y2⟩ := setP_rel (c2 := c) (g := h.get) (g2 := h.get) (fun hr => hr) p (he t)
   rw [ht] at y1 y2
   cases y1 with
   | nn _ _ _ hrd hv => exact ⟨c, hs, he.set' t (y2 (by simp) _ (.fz fts' es false _ hrd (fun e => by cases e))), LaterM.refl hm _ _⟩
  ·rename_i o ht
   split at hg
   ·rename_i fts' es hrow
    simp only [Option.some.injEq, Prod.mk.injEq] at hg
    obtain ⟨rfl, rfl⟩ := hg
    obtain ⟨c1, s1, l1, n1, r1, p1, d1⟩ := freeze1_rel hs (.own o)
    obtain ⟨y, y1, y2⟩ := setP_rel (g := h.get) (g2 := h.get) (fun hr => hr.later l1 (fun _ _ h => h)) p (he t)
    rw [ht] at y1 y2
    exact ⟨c1, s1, (he.later l1 (fun _ _ h => h)).set' t (y2 (by simp) _ (.fz fts' es false y (d1 y y1 (.row 0 fts') (.row es) (by simp only [toD, hrow, FT.sames_refl])) (fun e => by cases e))), (l1.mono (fun _ h => h.elim)).toM hm⟩
   ·cases hg
  ·simp only [Option.some.injEq, Prod.mk.injEq] at hg; obtain ⟨rfl, rfl⟩ := hg; exact base
 | ifC o f ts fts =>
  simp only [gstep] at hg
  split at hg
  ·rename_i cs hcs
   split at hg
   ·rename_i d hd
    simp only [Option.some.injEq, Prod.mk.injEq] at hg
    obtain ⟨rfl, rfl⟩ := hg
    refine ⟨c, turn_cells hs hcs (setU_len _ _ _) (fun vs hvs => ?_), he, LaterM.refl hm _ _⟩
    exact setU_rel hvs f (fun v hv => .ifz _ _ _ _ (toIf_none hd (nth_rel hvs hv)))
   ·rename_i d p hd
    split at hg
    ·rename_i o2 hok hidx
     simp only [Option.some.injEq, Prod.mk.injEq] at hg
     obtain ⟨rfl, rfl⟩ := hg
     obtain ⟨t, fts', ps, ds, hu, hl, hps, hds, hno, rfl⟩ := toIf_some hd
     obtain ⟨c2, r1, r2, r3, r4, r5, r6⟩ := swallow hs hm hok (allBut_not s p) hps hno hds
     have hj := idx_some hidx
     have hget : (s.pick (allBut s p) (allBut s p)).get o2 = .obj (UV.picks (allBut s p) cs) := by
      rw [pick_get, hj]; simp only [hcs, UO.pick]
     have hro := hs.obj o
     rw [hcs] at hro
     generalize hv : c.ρ o = v at hro
     generalize hf : c.φ o = fm at hro
     cases hro with
     | obj _ b k xs hg hes hz hro hso hx hr =>
      refine ⟨c2, ?_, fun q => by rw [get_picks]; exact r3 (he q), r2⟩
      have hro2 := r1.obj o2
      rw [hget, r5 o2 o hj, hv] at hro2
      generalize hf2 : c2.φ o2 = fm2 at hro2
      cases hro2 with
      | obj _ b' k' xs' hg' hes' hz' hro' hso' hx' hr' =>
       rw [hg] at hg'; cases hg'
       rw [hes] at hes'
       simp only [List.cons.injEq, and_true] at hes'; subst hes'
       refine r1.turn hf2 r1.wf (Later.refl _ _ _) ?_
       rw [r5 o2 o hj, hv]
       refine .obj _ b k xs hg hes (by rw [setU_len]; exact hz') hro hso hx (setU_rel hr' f (fun w hw => ?_))
       have hw2 := nth_rel hr hw
       rw [hu] at hw2
       cases hw2 with
       | iface _ _ w' hw' => exact .ifz _ _ _ _ (.ifc ts fts t (.ptr fts') _ w' hl (r4 w' hw'))
    ·cases hg
   ·cases hg
  ·cases hg
 | ifP t q ts fts =>
  simp only [gstep] at hg
  split at hg
  ·rename_i d hd
   simp only [Option.some.injEq, Prod.mk.injEq] at hg
   obtain ⟨rfl, rfl⟩ := hg
   obtain ⟨y, y1, y2⟩ := setP_rel (c2 := c) (g := h.get) (g2 := h.get) (fun hr => hr) q (he t)
   have hne : atP (e.get t) q ≠ .undef := by intro e1; rw [e1] at hd; simp [toIf] at hd
   exact ⟨c, hs, he.set' t (y2 hne _ (.ifz _ _ _ _ (toIf_none hd y1))), LaterM.refl hm _ _⟩
  ·rename_i d p hd
   split at hg
   ·rename_i hok
    simp only [Option.some.injEq, Prod.mk.injEq] at hg
    obtain ⟨rfl, rfl⟩ := hg
    obtain ⟨t', fts', ps, ds, hu, hl, hps, hds, hno, rfl⟩ := toIf_some hd
    obtain ⟨c2, r1, r2, r3, r4, r5, r6⟩ := swallow hs hm hok (allBut_not s p) hps hno hds
    have hne : atP (e.get t) q ≠ .undef := by intro e1; rw [e1] at hu; cases hu
    obtain ⟨y, y1, y2⟩ := setP_pick (g := h.get) r3 q (he t)
    rw [hu] at y1
    have he2 : REnv c2 h.get (UV.picks (allBut s p) e) e' := fun q => by rw [get_picks]; exact r3 (he q)
    cases y1 with
    | iface _ _ w hw => exact ⟨c2, r1, he2.set' t (y2 hne _ (.ifz _ _ _ _ (.ifc ts fts t' (.ptr fts') _ w hl (r4 w hw)))), r2⟩
   ·cases hg
  ·cases hg
theorem gsteps_rel {m : Nat} : ∀ {gs : List Gh} {c : Cx} {h : VHeap} {s : USt} {e e2 : UEnv} {s2 : USt} {e' : Env}, m ≤ c.n → RSt c h s → REnv c h.get e e' → gsteps m gs (e, s) = some (e2, s2) → ∃ c2, RSt c2 h s2 ∧ REnv c2 h.get e2 e' ∧ LaterM m c h c2 h c.fams
 | [], c, h, s, e, e2, s2, e', hm, hs, he, hg => by
  simp only [gsteps, Option.some.injEq, Prod.mk.injEq] at hg
  obtain ⟨rfl, rfl⟩ := hg
  exact ⟨c, hs, he, LaterM.refl hm _ _⟩
 | g :: gs, c, h, s, e, e2, s2, e', hm, hs, he, hg => by
  simp only [gsteps] at hg
  split at hg
  ·rename_i q hq
   obtain ⟨e1, s1⟩ := q
   obtain ⟨c1, a1, a2, a3⟩ := gstep_rel hm hs he hq
   obtain ⟨c2, b1, b2, b3⟩ := gsteps_rel a3.n a1 a2 hg
   exact ⟨c2, b1, b2, a3.trans b3 hs.wf⟩
  ·cases hg
def loopBody : Option Code → Code
 | some (.loop b) => b
 | _ => .skip
def ghP (m : Nat) (gin : List Gh) (told : ToldP) : ToldP := fun R e s K => match gsteps m gin (e, s) with
 | some (e, s) => told R e s K
 | none => none
def ghK {R : Type} (m : Nat) (gout : List Gh) (K : VExit → UEnv → USt → Option R) : VExit → UEnv → USt → Option R := fun x e s => match gsteps m gout (e, s) with
 | some (e, s) => K x e s
 | none => none
def loopK {R : Type} (m : Nat) (gin gout : List Gh) (told : ToldP) (K : VExit → UEnv → USt → Option R) : VExit → UEnv → USt → Option R := fun x e s => match x with
 | .normal => ghP m gin told R e s K
 | x => ghK m gout K x e s
theorem ghP_sound {m : Nat} {gin : List Gh} {b : Code} {told : ToldP} (h : SoundP P m b told) : SoundP P m b (ghP m gin told) := by
 intro R e s K r hu c h' e' hm hs he
 unfold ghP at hu
 split at hu
 ·rename_i e1 s1 hg
  obtain ⟨c1, a1, a2, a3⟩ := gsteps_rel hm hs he hg
  refine (h R e1 s1 K r hu c1 h' e' a3.n a1 a2).mono ?_
  rintro x e2 h2 ⟨u2, s2, c2, p1, p2, p3, p4⟩
  exact ⟨u2, s2, c2, p1, p2, a3.trans p3 hs.wf, p4⟩
 ·cases hu
def pieceOf : Option Code → Code
 | some b => b
 | _ => .skip
theorem get_unpack : ∀ (m : List Bool) (e : UEnv) (t : Nat), UEnv.get (unpackM m (packM m e)) t = UEnv.get e t ∨ UEnv.get (unpackM m (packM m e)) t = .undef
 | [], e, t => .inr (by simp [packM, unpackM, UEnv.get])
 | true :: m, v :: e, 0 => .inl rfl
 | true :: m, v :: e, t + 1 => by simpa [packM, unpackM, UEnv.get] using get_unpack m e t
 | true :: m, [], 0 => .inr rfl
 | true :: m, [], t + 1 => by simpa [packM, unpackM, UEnv.get] using get_unpack m [] t
 | false :: m, v :: e, 0 => .inr (by simp [packM, unpackM, UEnv.get])
 | false :: m, v :: e, t + 1 => by simpa [packM, unpackM, UEnv.get] using get_unpack m e t
 | false :: m, [], 0 => .inr (by simp [packM, unpackM, UEnv.get])
 | false :: m, [], t + 1 => by simpa [packM, unpackM, UEnv.get] using get_unpack m [] t
theorem REnv.unpack {g : VG} {e : UEnv} {e' : Env} (he : REnv c g e e') (m : List Bool) : REnv c g (unpackM m (packM m e)) e' := by
 intro t
 rcases get_unpack m e t with h1 | h1 <;> rw [h1]
 ·exact he t
 ·exact .undef _
theorem loopP_sound {F : FuncId → Option (Bool × ToldF)} (hF : SoundF' P F) {m : Nat} {mk : List Bool} {gin gout : List Gh} {told : Nat → ToldP} {Pc : Nat → Option ToldP} {body : Code} (hPc : SoundPc P m body Pc) {k p : Nat} (hp : 1 ≤ p) (hat : codeAt body p = some (.loop (loopBody (codeAt body p))))
  (h0 : ∀ R e s K, told 0 R e s K = none)
  (hstep : ∀ n (R : Type) vs s (K : VExit → UEnv → USt → Option R) r, told (n + 1) R vs s K = some r → uexec P F k Pc (2 * p) (loopBody (codeAt body p)) (unpackM mk vs) s (loopK m gin gout (pkP mk (told n)) K) = some r) :
  ∀ n, SoundP P m (.loop (loopBody (codeAt body p))) (pkP mk (told n)) := by
 have sub : codeAt body (2 * p) = some (loopBody (codeAt body p)) := codeAt_step hp hat false rfl
 intro n
 induction n with
 | zero => intro R e s K r hu; unfold pkP at hu; rw [h0] at hu; cases hu
 | succ n ih =>
  intro R e s K r hu c h e' hm hs he
  refine WP.loop1 ((exec_rel hF k R Pc m (2 * p) body _ _ s _ r (hstep n R (packM mk e) s K r hu) (by omega) sub hPc c h e' hm hs (he.unpack mk)).mono ?_)
  rintro x e2 h2 ⟨u2, s2, c2, p1, p2, p3, p4⟩
  have back : ∀ {x : VExit}, x ≠ .normal → loopK m gin gout (pkP mk (told n)) K x u2 s2 = some r → ∃ u1 s1 c1, RSt c1 h2 s1 ∧ REnv c1 h2.get u1 e2 ∧ LaterM m c h c1 h2 c.fams ∧ K x u1 s1 = some r := by
   intro x hx hk
   have hk : ghK m gout K x u2 s2 = some r := by cases x <;> first | exact absurd rfl hx | exact hk
   unfold ghK at hk
   split at hk
   ·rename_i e3 s3 hg3
    obtain ⟨c3, b1, b2, b3⟩ := gsteps_rel p3.n p1 p2 hg3
    exact ⟨e3, s3, c3, b1, b2, p3.trans b3 hs.wf, hk⟩
   ·cases hk
  cases x with
  | normal =>
   refine ((ghP_sound ih) R u2 s2 K r p4 c2 h2 e2 p3.n p1 p2).mono ?_
   rintro x e4 h4 ⟨u4, s4, c4, d1, d2, d3, d4⟩
   exact ⟨u4, s4, c4, d1, d2, p3.trans d3 hs.wf, d4⟩
  | exit i => exact back (by simp) p4
  | ret => exact back (by simp) p4
theorem pieceP_sound {F : FuncId → Option (Bool × ToldF)} (hF : SoundF' P F) {m : Nat} {mk : List Bool} {gout : List Gh} {told : ToldP} {Pc : Nat → Option ToldP} {body : Code} (hPc : SoundPc P m body Pc) {k p : Nat} (hp : 1 ≤ p) (hat : codeAt body p = some (pieceOf (codeAt body p)))
  (hstep : ∀ (R : Type) vs s (K : VExit → UEnv → USt → Option R) r, told R vs s K = some r → uexec P F k Pc p (pieceOf (codeAt body p)) (unpackM mk vs) s (ghK m gout K) = some r) : SoundP P m (pieceOf (codeAt body p)) (pkP mk told) := by
 intro R e s K r hu c h e' hm hs he
 refine (exec_rel hF k R Pc m p body _ _ s _ r (hstep R (packM mk e) s K r hu) hp hat hPc c h e' hm hs (he.unpack mk)).mono ?_
 rintro x e2 h2 ⟨u2, s2, c2, p1, p2, p3, p4⟩
 unfold ghK at p4
 split at p4
 ·rename_i e3 s3 hg3
  obtain ⟨c3, b1, b2, b3⟩ := gsteps_rel p3.n p1 p2 hg3
  exact ⟨e3, s3, c3, b1, b2, p3.trans b3 hs.wf, p4⟩
 ·cases p4
def sameLen : List UV → List UV → Bool
 | [], [] => true
 | _ :: a, _ :: b => sameLen a b
 | _, _ => false
theorem sameLen_iff : ∀ {a b : List UV}, sameLen a b = true → a.length = b.length
 | [], [], _ => rfl
 | _ :: a, _ :: b, h => by simp only [sameLen] at h; simp [sameLen_iff h]
 | [], _ :: _, h => by cases h
 | _ :: _, [], h => by cases h
theorem REnv.args {g : VG} {us : List UV} {vs : List VV} (he : REnv c g us vs) (hl : us.length = vs.length) : RVs c g us vs := by
 refine ⟨hl, fun i u v hu hv => ?_⟩
 have h1 := he i
 have e1 : UEnv.get us i = u := by
  have key : ∀ (us : List UV) (t : Nat), UEnv.get us t = us.getD t .undef := by
   intro us
   induction us with
   | nil => intro t; simp [UEnv.get]
   | cons u us ih => intro t; cases t with
    | zero => simp [UEnv.get]
    | succ t => simp [UEnv.get, ih]
  rw [key, List.getD_eq_getElem?_getD, hu]; rfl
 have e2 : Env.get vs i = v := by simp [Env.get, List.getD_eq_getElem?_getD, hv]
 rw [e1, e2] at h1
 exact h1
def funK {R : Type} (m : Nat) (gout : List Gh) (K : UV → USt → Option R) : UV → USt → Option R := fun v s => match gsteps m gout ([v], s) with
 | some ([v], s) => K v s
 | _ => none
theorem LaterM.less {m n : Nat} {c' : Cx} {h' : VHeap} {T : Nat → Prop} (hL : LaterM m c h c' h' T) (hn : n ≤ m) : LaterM n c h c' h' T :=
 ⟨Nat.le_trans hn hL.n, fun o ho => hL.ρ o (Nat.lt_of_lt_of_le ho hn), hL.K, hL.next, hL.same, hL.fam, hL.mp, hL.newK, hL.newφ, fun o f ho => hL.oldφ o f (Nat.lt_of_lt_of_le ho hn)⟩
theorem ufun_sound {T : Known} (hF : SoundF' P T.F) {m : Nat} {gout : List Gh} {told : ToldF} {g : FuncId} {k : Nat} (hPc : ∀ fn body, P.funcs[g]? = some fn → fn.body = some body → SoundPc P m body T.Pc) (hlen : ∀ (R : Type) args s (K : UV → USt → Option R) r, told R args s K = some r → s.len = m)
  (hstep : ∀ (R : Type) args s (K : UV → USt → Option R) r, told R args s K = some r → ufun P T k g args s (funK m gout K) = some r) : Tells P g told := by
 intro R args s K r hu c h vargs hs hr
 have hl := hlen _ _ _ _ _ hu
 refine (ufun_rel hF (hstep _ _ _ _ _ hu) (by rw [hl]; exact hPc) hs hr).mono ?_
 rintro v h' ⟨u, s1, c1, q1, q2, q3, q4⟩
 unfold funK at q4
 split at q4
 ·rename_i w s2 hg
  have hm : m = c.n := by rw [← hl, hs.len]
  have he : REnv c1 h'.get [u] [v] := args_env (RVs.cons q2 (RVs.nil _ _))
  obtain ⟨c2, b1, b2, b3⟩ := gsteps_rel (m := m) (by rw [hm]; exact q3.n) q1 he hg
  have h3 : LaterM m c h c2 h' c.fams := (q3.toM (by rw [hm]; exact Nat.le_refl _)).trans b3 hs.wf
  exact ⟨w, s2, c2, b1, b2 0, by subst hm; exact h3.full, q4⟩
 ·cases q4
def toldClone (fts : List FT) (bytes : Nat) : ToldF := fun R args s K => match args, s with
 | [.fz fts' es _], [] => match FT.sames fts fts' with
  | true => cond (fits es.length bytes) (K (.own 0) [.row fts es]) none
  | false => none
 | [.nilslice], [] => K (.own 0) [.row fts []]
 | _, _ => none
theorem clone_tells {F : FuncId → Option (Bool × ToldF)} (hF : SoundF' P F) {g : FuncId} {fts : List FT} {bytes k : Nat} (h1 : ∀ (R : Type) (K : UV → USt → Option R), ufun P ⟨F, fun _ => none⟩ k g [.nilslice] [] K = K .nilslice [])
  (h2 : ∀ (R : Type) (K : UV → USt → Option R) (es : List (List D)), ufun P ⟨F, fun _ => none⟩ k g [.nn fts es] [] K = cond (fits (([] : List (List D)).length + es.length) bytes) (K (.own 1) [.gone, .row fts ([] ++ es)]) none) : Tells P g (toldClone fts bytes) := by
 have nilcase : ∀ {R : Type} {K : UV → USt → Option R} {r : R}, K (.own 0) [.row fts []] = some r → ∀ (c : Cx) (h : VHeap) v, RSt c h [] → v = .nilslice → VC P seatX g [v] h fun v h' => ∃ u s1 c1, RSt c1 h' s1 ∧ RV c1 h'.get u v ∧ Later c h c1 h' c.fams ∧ K u s1 = some r := by
  intro R K r hK c h v hs hv
  subst hv
  have hr : RVs c h.get [.nilslice] [.nilslice] := RVs.cons .nilslice (RVs.nil _ _)
  have hu := h1 (UV × USt) (fun u s => some (u, s))
  refine (ufun_rel (T := ⟨F, fun _ => none⟩) hF hu (fun _ _ _ _ => SoundPc.none _ _ _) hs hr).mono ?_
  rintro v h' ⟨u, s1, c1, q1, q2, q3, q4⟩
  simp only [Option.some.injEq, Prod.mk.injEq] at q4
  obtain ⟨rfl, rfl⟩ := q4
  cases q2
  obtain ⟨a1, a2, a3⟩ := addNil q1 fts c1.fams
  exact ⟨.own 0, [.row fts []], _, a1, a3, q3.trans' a2 hs.wf, hK⟩
 intro R args s K r hu c h vargs hs hr
 unfold toldClone at hu
 split at hu
 ·rename_i fts' es cut
  split at hu
  ·rename_i hsame
   have := FT.sames_eq _ _ hsame; subst this
   obtain ⟨hf, hK⟩ := cond_some hu
   obtain ⟨v, rfl, hv⟩ := hr.inv1
   cases hv with
   | fz _ _ _ _ hrd hc =>
    cases v with
    | nilslice => cases hrd; exact nilcase hK c h _ hs rfl
    | slice b i n cp z =>
     have hr' : RVs c h.get [.nn fts es] [.slice b i n cp z] := RVs.cons (.nn fts es _ hrd ⟨b, i, n, cp, z, rfl⟩) (RVs.nil _ _)
     have hu2 := h2 (UV × USt) (fun u s => some (u, s)) es
     rw [List.nil_append, List.length_nil, Nat.zero_add, hf, cond_true] at hu2
     refine (ufun_rel (T := ⟨F, fun _ => none⟩) hF hu2 (fun _ _ _ _ => SoundPc.none _ _ _) hs hr').mono ?_
     rintro v h' ⟨u, s1, c1, q1, q2, q3, q4⟩
     simp only [Option.some.injEq, Prod.mk.injEq] at q4
     obtain ⟨rfl, rfl⟩ := q4
     have hp := q1.pick (ids := [1]) (by simp)
     have hv := q2.pick (ids := [1])
     have hL : LaterM 0 c1 h' (c1.pick [1]) h' (fun _ => False) := pickM rfl
     have hn : c.n = 0 := hs.len.symm
     have h3 : LaterM 0 c h (c1.pick [1]) h' c.fams := (q3.toM (Nat.zero_le _)).trans (hL.mono (fun _ h => h.elim)) hs.wf
     rw [← hn] at h3
     exact ⟨.own 0, [.row fts es], _, hp, hv, h3.full, hK⟩
    | _ => cases hrd
  ·cases hu
 ·obtain ⟨v, rfl, hv⟩ := hr.inv1
  cases hv
  exact nilcase hu c h _ hs rfl
 ·cases hu
inductive WFD : FT → D → Prop
 | bool (b : Bool) : WFD .bool (.bool b)
 | int (k : IntKind) (n : Int) (h : (Lit.int k n).wf = true) : WFD (.int k) (.int n)
 | str (s : ByteArray) (h : s.size ≤ reachBytes) : WFD .str (.str s)
 | nil (bytes : Nat) (fts : List FT) : WFD (.row bytes fts) .nil
 | row (bytes : Nat) (fts : List FT) (rows : List (List D)) (hb : rows.length * bytes ≤ reachBytes) (hl : ∀ r ∈ rows, r.length = fts.length)
   (hr : ∀ r ∈ rows, ∀ (j : Nat) ft d, fts[j]? = some ft → r[j]? = some d → WFD ft d) : WFD (.row bytes fts) (.row rows)
structure WFDs (fts : List FT) (ds : List D) : Prop where
 len : ds.length = fts.length
 at_ : ∀ (j : Nat) ft d, fts[j]? = some ft → ds[j]? = some d → WFD ft d
theorem Has.wfd {g : VG} {ft : FT} {d : D} {v : VV} (h : Has g ft d v) : WFD ft d := by
 induction h with
 | bool b => exact .bool b
 | int k n h => exact .int k n h
 | str s h => exact .str s h
 | nil bytes fts => exact .nil bytes fts
 | row bytes fts rows b k hg hro hz h0 hlen hb hrl hr ih =>
  have key : ∀ r ∈ rows, ∃ (i : Nat) (cs : List VV), rows[i]? = some r ∧ k.es[i]? = some cs := fun r hm => by
   obtain ⟨i, hi⟩ := List.getElem?_of_mem hm
   have hlt : i < k.es.length := by rw [hlen]; exact (List.getElem?_eq_some_iff.1 hi).1
   exact ⟨i, k.es[i], hi, List.getElem?_eq_getElem hlt⟩
  refine .row bytes fts rows hb (fun r hm => ?_) (fun r hm j ft d hf hd => ?_)
  ·obtain ⟨i, cs, h1, h2⟩ := key r hm
   exact (hrl i r cs h1 h2).1
  ·obtain ⟨i, cs, h1, h2⟩ := key r hm
   have h3 := (hrl i r cs h1 h2).2
   have hj : j < cs.length := by rw [h3]; exact (List.getElem?_eq_some_iff.1 hf).1
   exact ih i r cs h1 h2 j ft d cs[j] hf hd (List.getElem?_eq_getElem hj)
theorem Has.rd {h : VHeap} (hs : Still h) {ft : FT} {d : D} {v : VV} (hh : Has h.get ft d v) : RD h.get (· < h.next) ft d v := by
 induction hh with
 | bool b => exact .bool b
 | int k n h => exact .int k n
 | str s h => exact .str s
 | nil bytes fts => exact .nil bytes fts
 | row bytes fts rows b k hg hro hz h0 hlen hb hrl hr ih =>
  refine .row bytes fts rows b 0 rows.length none fts.length k hg (hs.wf.fam b k hg) hz rfl h0 rfl (by omega) (fun cp e => by cases e) ?_ ?_
  ·intro j r cs h1 h2
   rw [Nat.zero_add] at h2
   exact hrl j r cs h1 h2
  ·intro j r cs h1 h2 m ft d v g1 g2 g3
   rw [Nat.zero_add] at h2
   exact ih j r cs h1 h2 m ft d v g1 g2 g3
def Cx.start (h : VHeap) : Cx := ⟨0, fun _ => .undef, (· < h.next), fun _ => nof⟩
theorem RSt.start {h : VHeap} (hs : Still h) : RSt (Cx.start h) h [] :=
 ⟨hs.wf, rfl, fun o => .gone _ (by intro b i f e; cases e),
  (fun o o' f h => by cases h), (fun o f h => by cases h), (fun o f h => by cases h), fun f h => h, fun o _ => rfl⟩
def argsU (P : Program) : List TypeId → List (List D) → List UV
 | t :: ts, ds :: dss => match flat P 20 t with
  | some fts => (ufrom P t (ofDs 0 fts ds)).getD .undef :: argsU P ts dss
  | none => []
 | _, _ => []
inductive WFArgs (P : Program) : List TypeId → List (List D) → Prop
 | nil : WFArgs P [] []
 | cons (t : TypeId) (ts : List TypeId) (fts : List FT) (ds : List D) (dss : List (List D)) (hf : flat P 20 t = some fts) (hd : WFDs fts ds) (hr : WFArgs P ts dss) : WFArgs P (t :: ts) (ds :: dss)
theorem args_rel {h : VHeap} (hs : Still h) {ts : List TypeId} {dss : List (List D)} {vs : List VV} (ha : HasArgs P h.get ts dss vs) : WFArgs P ts dss ∧ RVs (Cx.start h) h.get (argsU P ts dss) vs := by
 induction ha with
 | nil => exact ⟨.nil, RVs.nil _ _⟩
 | cons t ts fts ds dss xs v vs hf hx hv hr ih =>
  have hrdl : RDL h.get (Cx.start h).K fts ds xs := ⟨hx.len, hx.lenv, fun m ft d v a b e => (hx.at_ m ft d v a b e).rd hs⟩
  refine ⟨.cons t ts fts ds dss hf ⟨hx.len, fun j ft d a b => ?_⟩ ih.1, ?_⟩
  ·have hj : j < xs.length := by rw [hx.lenv]; exact (List.getElem?_eq_some_iff.1 a).1
   exact (hx.at_ j ft d xs[j] a b (List.getElem?_eq_getElem hj)).wfd
  ·simp only [argsU, hf]
   refine RVs.cons ?_ ih.2
   have h1 := ofDs_rel (c := Cx.start h) hrdl 0 fts.length (by omega)
   simp only [List.drop_zero, List.take_length] at h1
   rw [← hx.lenv, List.take_length] at h1
   cases hu : ufrom P t (ofDs 0 fts ds) with
   | none => exact .undef _
   | some u =>
    obtain ⟨w, w1, w2⟩ := ufrom_rel hu h1
    rw [hv] at w1
    simp only [Option.some.injEq] at w1
    subst w1
    exact w2
def boolK : UV → USt → Option Bool := fun v _ => match v with
 | .bool b => some b
 | _ => none
end
end Go.Proofs.Ythlbahcggmbfaaa.V

namespace Go.Proofs.Ythlbahcggmbfaaa.V
theorem law_of_told {P : Program} (hmix : P.follows .mixedOrders = true) (hdst : progDst P = true) (hX : SoundX P seatX) {f : FuncId} {ts : List TypeId} {told : ToldF} (ht : Tells P f told) (H : ∀ dss, WFArgs P ts dss → told Bool (argsU P ts dss) [] boolK = some true) : Law P f ts := by
 intro h dss args hs hargs
 obtain ⟨hw, hr⟩ := args_rel hs hargs
 obtain ⟨n, v, h', hrun, u, s1, c1, q1, q2, q3, q4⟩ := ht Bool (argsU P ts dss) [] boolK true (H dss hw) _ _ _ (RSt.start hs) hr
 refine ⟨h', ?_⟩
 have hv : v = .bool true := by
  unfold boolK at q4
  split at q4
  ·simp only [Option.some.injEq] at q4; subst q4; cases q2; rfl
  ·cases q4
 subst hv
 exact run_sound hmix hdst (X := seatX) hX hrun
end Go.Proofs.Ythlbahcggmbfaaa.V

namespace Go.Proofs.Ythlbahcggmbfaaa.V
def ghG (gin : List Gh) (told : ToldF) : ToldF := fun R args s K => match gsteps s.len gin (args, s) with
 | some (e, s1) => match sameLen e args with
  | true => utold true told e s1 K
  | false => none
 | none => none
section
variable {P : Program} {c : Cx} {h : VHeap} {s : USt}
theorem ghG_sound {gin : List Gh} {g : FuncId} {told : ToldF} (ht : Tells P g told) : Tells P g (ghG gin told) := by
 intro R args s K r hu c h vargs hs hr
 unfold ghG at hu
 split at hu
 ·rename_i e0 s0 hg0
  obtain ⟨c0, a1, a2, a3⟩ := gsteps_rel (m := s.len) (by rw [hs.len]; exact Nat.le_refl _) hs (args_env hr) hg0
  split at hu
  ·rename_i hsl
   have hr0 : RVs c0 h.get e0 vargs := a2.args (by rw [sameLen_iff hsl]; exact hr.1)
   refine (utold_rel ht hu a1 hr0).mono ?_
   rintro v h' ⟨u, s1, c1, q1, q2, q3, q4⟩
   have q3' : Later c0 h c1 h' c0.fams := q3.mono (fun f ⟨o, _, ho⟩ => ⟨o, ho⟩)
   have h5 : LaterM s.len c h c1 h' c.fams := a3.trans ((q3'.toM (Nat.le_refl _)).less a3.n) hs.wf
   rw [hs.len] at h5
   exact ⟨u, s1, c1, q1, q2, h5.full, q4⟩
  ·cases hu
 ·cases hu
end
end Go.Proofs.Ythlbahcggmbfaaa.V

namespace Go.Proofs.Ythlbahcggmbfaaa.V
open Go.RowKit
section
variable {P : Program}
theorem RelL.one_inv {ρ : Ren} {v : VV} {ms : List Value} (h : RelL ρ [v] ms) : ∃ m, ms = [m] ∧ RelV ρ v m := by
 obtain ⟨m, x, rfl, h1, h2⟩ := h.of_cons
 rw [h2.of_nil]; exact ⟨m, rfl, h1⟩
theorem RelL.two_inv {ρ : Ren} {u v : VV} {ms : List Value} (h : RelL ρ [u, v] ms) : ∃ m n, ms = [m, n] ∧ RelV ρ u m ∧ RelV ρ v n := by
 obtain ⟨m, x, rfl, h1, h2⟩ := h.of_cons
 obtain ⟨n, rfl, h3⟩ := h2.one_inv
 exact ⟨m, n, rfl, h1, h3⟩
end
end Go.Proofs.Ythlbahcggmbfaaa.V

namespace Go.Proofs.Ythlbahcggmbfaaa.V
open Go.RowKit Go.Maps Go.Sort
section
variable {P : Program}
end
end Go.Proofs.Ythlbahcggmbfaaa.V

namespace Go.Proofs.Ythlbahcggmbfaaa.V
open Go.RowKit Go.Maps Go.Sort
section
variable {P : Program}
theorem ints1_of : ∀ {l : List (List VV)}, l.all isInt1 = true → ∃ zs : List Int, l = zs.map fun z => [VV.int .i64 z]
 | [], _ => ⟨[], rfl⟩
 | v :: l, h => by
  simp only [List.all_cons, Bool.and_eq_true] at h
  obtain ⟨zs, rfl⟩ := ints1_of h.2
  have hv : ∃ z, v = [.int .i64 z] := by
   have h1 := h.1
   unfold isInt1 at h1
   split at h1
   ·exact ⟨_, rfl⟩
   ·cases h1
  obtain ⟨z, rfl⟩ := hv
  exact ⟨z :: zs, rfl⟩
theorem xDelete_sound {f : FuncId} (hcl : ∀ (blk off cap i j : Nat) (zs : List Int) (w : World), Holds (Value.int .i64) w blk off zs.toArray → zs.length ≤ cap → cap ≤ 9223372036854775807 → i ≤ j → j ≤ zs.length →
   Calls P f #[.slice (some ⟨blk, off, none⟩) zs.length cap, .int .i64 i, .int .i64 j] w fun e w' => e = .returned (.slice (some ⟨blk, off, none⟩) (zs.length - (j - i)) cap) ∧ ∃ q, w' = putRow (Value.int .i64) (Sort.ahead w q) blk off (zs.take i ++ zs.drop j ++ List.replicate (j - i) 0).toArray)
  {args : List VV} {h h' : VHeap} {v : VV} (hop : xDelete args h = some (v, h')) : SoundF P f args h v h' := by
 intro ρ w margs hR hw hrel _hG
 unfold xDelete at hop
 split at hop
 ·rename_i b i n c lo hi
  split at hop
  ·rename_i k hg
   split at hop
   ·rename_i hc
    obtain ⟨q1, q2, q3, q4, q5, q6⟩ := hc
    obtain ⟨zs, hzs⟩ := ints1_of q6
    simp only [Option.map_eq_some_iff] at hop
    obtain ⟨h1, hov, hop⟩ := hop
    simp only [Prod.mk.injEq] at hop
    obtain ⟨rfl, rfl⟩ := hop
    have hn : zs.length = n := by
     have := congrArg List.length hzs
     simp only [List.length_take, List.length_drop, List.length_map] at this
     omega
    rw [hzs] at hov
    have hxs : (zs.map fun z => [VV.int .i64 z]).take lo.toNat ++ (zs.map fun z => [VV.int .i64 z]).drop hi.toNat ++ List.replicate (hi.toNat - lo.toNat) [VV.int .i64 0] = (zs.take lo.toNat ++ zs.drop hi.toNat ++ List.replicate (hi.toNat - lo.toNat) 0).map fun z => [VV.int .i64 z] := by
     simp [List.map_append, List.map_take, List.map_drop, List.map_replicate]
    rw [hxs] at hov
    generalize hys : zs.take lo.toNat ++ zs.drop hi.toNat ++ List.replicate (hi.toNat - lo.toNat) (0 : Int) = ys at hov
    have hyl : ys.length = n := by rw [← hys]; simp; omega
    unfold overwrite at hov
    rw [hg] at hov
    simp only at hov
    split at hov
    ·cases hov
    ·rename_i hro0
     have hro : k.ro = false := by
      cases hb : k.ro with
      | false => rfl
      | true => exact absurd (.inl hb) hro0
     simp only [Option.some.injEq] at hov
     obtain ⟨m1, ms, rfl, r1, hrel⟩ := hrel.of_cons
     obtain ⟨m2, m3, rfl, r2, r3⟩ := hrel.two_inv
     cases r2; cases r3
     cases r1 with
     | slice _ _ _ _ _ l a mcap hb hz hn' hm hcc ho ha =>
      have ha2 : a = addrAt l i 0 := by
       rcases ha with ha | ⟨ha, _⟩
       ·exact ha
       ·omega
      subst ha2
      obtain ⟨o, hob, hro2⟩ := hR.obj b l hb
      rw [hg] at hob; simp only [Option.some.injEq] at hob; subst hob
      generalize hmo : w.heap[l.mb]? = mo at hro2
      cases hro2 with
      | cells _ cs t fr hr hs he h0 hin hfr hcells =>
       have hesz : l.esz = 1 := by rw [← he]; exact q5
       have hle : (k.es.take i ++ (ys.map fun z => [VV.int .i64 z]) ++ k.es.drop (i + (ys.map fun z => [VV.int .i64 z]).length)).length = k.es.length := by simp; omega
       have hin1 : l.coff + k.es.length ≤ l.msz := by rw [hesz] at hin; omega
       have hel : ∀ j (hj : j < zs.length), k.es[i + j]? = some [VV.int .i64 zs[j]] := by
        intro j hj
        have : ((k.es.drop i).take n)[j]? = some [VV.int .i64 zs[j]] := by rw [hzs, List.getElem?_map, List.getElem?_eq_getElem hj]; rfl
        rw [List.getElem?_take, if_pos (by omega), List.getElem?_drop] at this
        exact this
       have hH : Holds (Value.int .i64) w l.mb (l.coff + i * l.esz + 0) zs.toArray := by
        intro j hj
        have hj' : j < zs.length := by simpa using hj
        obtain ⟨_, _, a3⟩ := hcells (i + j) _ (hel j hj')
        obtain ⟨mv, m1, m2⟩ := a3 0 _ rfl
        have hx : l.coff + (i + j) * l.esz + 0 = l.coff + i * l.esz + 0 + j := by rw [hesz]; omega
        rw [hx] at m1
        cases m2
        refine ⟨?_, ?_⟩
        ·rw [cell_of_row w l.mb _ cs t fr hmo, m1]
         simp [hj']
        ·have hnf := hfr hro (l.coff + i * l.esz + 0 + j) (by rw [hesz]; omega)
         unfold World.frozen?
         rw [hmo]
         obtain ⟨f1, f2⟩ := fr
         simp only [Bool.and_eq_false_iff, decide_eq_false_iff_not]
         simp only [not_and] at hnf
         by_cases hh : f1 ≤ l.coff + i * l.esz + 0 + j
         ·exact .inr (hnf hh)
         ·exact .inl hh
       obtain ⟨lo', rfl⟩ : ∃ x : Nat, lo = (x : Int) := ⟨lo.toNat, by omega⟩
       obtain ⟨hi', rfl⟩ : ∃ x : Nat, hi = (x : Int) := ⟨hi.toNat, by omega⟩
       simp only [Int.toNat_natCast] at hys q3
       subst hn
       refine (hcl l.mb (l.coff + i * l.esz + 0) mcap lo' hi' zs w hH hn' (by unfold maxLen at hm; omega) (by omega) (by omega)).mono ?_
       rintro e w' ⟨rfl, q, rfl⟩
       rw [hys]
       simp only [Int.toNat_natCast]
       refine ⟨_, ρ, rfl, ?_, ?_⟩
       ·rw [← hov]
        have hw2 : (putRow (Value.int .i64) (Sort.ahead w q) l.mb (l.coff + i * l.esz + 0) ys.toArray).heap[l.mb]? = some (.cells (putCells (Value.int .i64) (l.coff + i * l.esz + 0) ys.toArray cs) t fr) := by
         show (w.heap.modify l.mb (onCells _))[l.mb]? = _
         rw [Array.getElem?_modify, if_pos rfl, hmo]; rfl
        have hget : ∀ x, (putCells (Value.int .i64) (l.coff + i * l.esz + 0) ys.toArray cs)[x]? = if l.coff + i * l.esz + 0 ≤ x ∧ x < l.coff + i * l.esz + 0 + ys.length then (cs[x]?).map (fun _ => Value.int .i64 (ys.toArray[x - (l.coff + i * l.esz + 0)]!)) else cs[x]? := by
         intro x
         unfold putCells
         rw [Array.getElem?_mapIdx]
         simp only [List.size_toArray]
         split
         ·rfl
         ·cases cs[x]? <;> rfl
        refine step_write (c := cs) (c' := putCells (Value.int .i64) (l.coff + i * l.esz + 0) ys.toArray cs) (t := t) (fr := fr) hR hw hb hg hro i _ hle hmo (by unfold putCells; simp) (fun x hx => ?_) (fun j cz hcz => ?_) hw2 ⟨by show (w.heap.modify _ _).size = _; simp, rfl, rfl, rfl, fun k2 hk2 => by show (w.heap.modify _ _)[k2]? = _; rw [Array.getElem?_modify, if_neg (fun e => hk2 e.symm)]⟩
        ·rw [hget, if_neg (by omega)]
        ·have hcz : (k.es.take i ++ (ys.map fun z => [VV.int .i64 z]) ++ k.es.drop (i + (ys.map fun z => [VV.int .i64 z]).length))[j]? = some cz := hcz
         have hti : (k.es.take i).length = i := by simp; omega
         rw [List.append_assoc] at hcz
         by_cases hj1 : j < i
         ·rw [List.getElem?_append_left (by omega), List.getElem?_take, if_pos hj1] at hcz
          obtain ⟨a1, a2, a3⟩ := hcells j cz hcz
          refine ⟨a1, a2, fun m v hv => ?_⟩
          have hmlt : m < 1 := by rw [← hesz, ← a1]; exact (List.getElem?_eq_some_iff.1 hv).1
          obtain ⟨mv, b1, b2⟩ := a3 m v hv
          refine ⟨mv, ?_, b2⟩
          rw [hget, if_neg (by rw [hesz]; omega)]; exact b1
         ·rw [List.getElem?_append_right (by omega), hti] at hcz
          by_cases hj2 : j - i < ys.length
          ·rw [List.getElem?_append_left (by simpa using hj2), List.getElem?_map, List.getElem?_eq_getElem hj2] at hcz
           simp only [Option.map_some, Option.some.injEq] at hcz
           subst hcz
           refine ⟨by rw [hesz]; rfl, rfl, fun m v hv => ?_⟩
           cases m with
           | succ m => simp at hv
           | zero =>
            simp at hv; subst hv
            have hlt : l.coff + j * l.esz + 0 < cs.size := by rw [hs, hesz]; omega
            refine ⟨Value.int .i64 ys[j - i], ?_, .int _ _⟩
            rw [hget, if_pos (by rw [hesz]; omega), Array.getElem?_eq_getElem hlt]
            simp only [Option.map_some, Option.some.injEq, Value.int.injEq, true_and]
            have e1 : l.coff + j * l.esz + 0 - (l.coff + i * l.esz + 0) = j - i := by rw [hesz]; omega
            rw [e1]
            simp [hj2]
          ·rw [List.getElem?_append_right (by simp; omega), List.getElem?_drop] at hcz
           have hcz : k.es[j]? = some cz := by
            rw [← hcz]; congr 1; simp; omega
           obtain ⟨a1, a2, a3⟩ := hcells j cz hcz
           refine ⟨a1, a2, fun m v hv => ?_⟩
           have hmlt : m < 1 := by rw [← hesz, ← a1]; exact (List.getElem?_eq_some_iff.1 hv).1
           obtain ⟨mv, b1, b2⟩ := a3 m v hv
           refine ⟨mv, ?_, b2⟩
           rw [hget, if_neg (by rw [hesz]; omega)]; exact b1
       ·exact .slice _ _ _ _ _ l _ mcap hb hz (by omega) hm hcc ho (.inl (by rw [Nat.add_zero]; rfl))
   ·cases hop
  ·cases hop
 ·cases hop
end
end Go.Proofs.Ythlbahcggmbfaaa.V

namespace Go.Proofs
open Go.RowKit Go.Shelf
def Ythlbahcggmbfaaa.deleteA_ren : Go.Shelf.Ren := ⟨fun | 23 => 58 | n => n, fun | 22 => 40 | 3 => 3 | 4 => 4 | 0 => 0 | n => n, fun | n => n⟩
theorem Ythlbahcggmbfaaa.deleteA : Go.Proofs.Lays2.n23 Try.prog Ythlbahcggmbfaaa.deleteA_ren := {
 mixed := by kernel_rfl
 f23 := Try.func58.trans (congrArg some (by kernel_rfl))
 t0 := Try.underlying0
 a0 := Try.isAgg0
 z0 := Try.sizeOf0
 v0 := Try.zeroValue0
 t3 := Try.underlying3
 a3 := Try.isAgg3
 z3 := Try.sizeOf3
 v3 := Try.zeroValue3
 t4 := Try.underlying4
 a4 := Try.isAgg4
 z4 := Try.sizeOf4
 v4 := Try.zeroValue4
 t22 := Try.underlying40
 a22 := Try.isAgg40
 z22 := Try.sizeOf40
 v22 := Try.zeroValue40
 i3 := by kernel_rfl }
end Go.Proofs

namespace Go.Proofs
open Go.RowKit Go.Sort Go.Shelf
theorem Ythlbahcggmbfaaa.delete_walk (blk off cap i j : Nat) (zs : List Int) (w : World) (hH : Holds (Value.int .i64) w blk off zs.toArray) (hcap : zs.length ≤ cap) (hm : cap ≤ 9223372036854775807) (hij : i ≤ j) (hj : j ≤ zs.length) :
  Calls Try.prog 58 #[.slice (some ⟨blk, off, none⟩) zs.length cap, .int .i64 i, .int .i64 j] w fun e w' => e = .returned (.slice (some ⟨blk, off, none⟩) (zs.length - (j - i)) cap) ∧ ∃ q, w' = putRow (Value.int .i64) (Sort.ahead w q) blk off (zs.take i ++ zs.drop j ++ List.replicate (j - i) 0).toArray :=
 Any.slices_Delete_int Ythlbahcggmbfaaa.deleteA blk off cap i j zs w hH hcap hm hij hj
end Go.Proofs

namespace Go.Proofs.Ythlbahcggmbfaaa.V
open Go.RowKit Go.Maps Go.Sort
theorem seatX_sound : SoundX Try.prog seatX := by
 intro f g hg args h v h' hop
 unfold seatX at hg
 split at hg
 ·rename_i hb
  have := Nat.eq_of_beq_eq_true hb; subst this
  cases hg
  exact xDelete_sound (fun blk off cap i j zs w h1 h2 h3 h4 h5 => Ythlbahcggmbfaaa.delete_walk blk off cap i j zs w h1 h2 h3 h4 h5) hop
 ·cases hg
end Go.Proofs.Ythlbahcggmbfaaa.V

namespace Go.Proofs.Ythlbahcggmbfaaa.V
section
variable {P : Program} {c : Cx} {h : VHeap} {s : USt}
end
end Go.Proofs.Ythlbahcggmbfaaa.V

namespace Go.Proofs.Ythlbahcggmbfaaa.V
open Go.RowKit
section
variable {P : Program}
end
section
variable {P : Program}
end
end Go.Proofs.Ythlbahcggmbfaaa.V

namespace Go.Proofs.Ythlbahcggmbfaaa.V
def delAt (es : List (List D)) (lo hi : Nat) : List (List D) := es.take lo ++ es.drop hi
def delOK (es : List (List D)) (lo hi : Int) : Bool := decide (0 ≤ lo ∧ lo < hi) && upTo hi es.length
def toldDelete : ToldF := fun _ args s K => match args, s with
 | [.own 0, .int .i64 lo, .int .i64 hi], [.row fts es] => match FT.sames fts [.int .i64] with
  | true => cond (delOK es lo hi) (K (.own 1) [.gone, .row fts (delAt es lo.toNat hi.toNat)]) none
  | false => none
 | _, _ => none
section
variable {P : Program} {c : Cx} {h : VHeap} {s : USt}
theorem ints_seg {g : VG} {K : Nat → Prop} : ∀ {es : List (List D)} {xs : List (List VV)}, xs.length = es.length → Seg g K [.int .i64] es xs 0 → xs.all isInt1 = true
 | [], [], _, _ => rfl
 | e :: es, x :: xs, hl, hs => by
  have h0 := hs.at_ 0 e x rfl rfl
  have hx : ∃ n, x = [.int .i64 n] := by
   have l1 := h0.len; have l2 := h0.lenv
   match e, x, l1, l2, h0 with
   | [d], [v], _, _, h0 =>
    have := h0.head
    cases this
    exact ⟨_, rfl⟩
  obtain ⟨n, rfl⟩ := hx
  have hs2 : Seg g K [.int .i64] es xs 0 := ⟨by simp at hl; omega, fun j r cs h1 h2 => hs.at_ (j + 1) r cs (by simpa using h1) (by rw [Nat.zero_add] at h2 ⊢; simpa using h2)⟩
  simp only [List.all_cons, ints_seg (by simpa using hl) hs2, Bool.and_true]; rfl
 | [], _ :: _, hl, _ => by simp at hl
 | _ :: _, [], hl, _ => by simp at hl
theorem delete_tells {g : FuncId} (hX : seatX g = some xDelete) : Tells P g toldDelete := by
 intro R args st K r hu c h vargs hs hr
 unfold toldDelete at hu
 split at hu
 ·rename_i lo hi fts es
  split at hu
  ·rename_i hft
   have hft := FT.sames_eq _ _ hft
   subst hft
   obtain ⟨q, hK⟩ := cond_some hu
   unfold delOK upTo at q
   simp only [Bool.and_eq_true, decide_eq_true_eq] at q
   obtain ⟨v, v1, v2, rfl, hv, hv1, hv2⟩ : ∃ v v1 v2, vargs = [v, v1, v2] ∧ RV c h.get (.own 0) v ∧ RV c h.get (.int .i64 lo) v1 ∧ RV c h.get (.int .i64 hi) v2 := by
    have hl := hr.1
    match vargs, hl, hr with
    | [v, v1, v2], _, hr => exact ⟨v, v1, v2, rfl, hr.head, hr.tail.head, hr.tail.tail.head⟩
   cases hv1; cases hv2
   cases hv with
   | own _ v ho hb hv =>
   have hnp : ∀ b i f, c.ρ 0 ≠ .ptr b i f := by
    intro b i f e; rw [hb] at e; subst e
    rcases hv with e | ⟨_, _, _, _, _, e⟩ <;> cases e
   have hro := hs.obj 0
   rw [show (USt.get [UO.row [FT.int .i64] es] 0) = .row [.int .i64] es from rfl, hb] at hro
   generalize hfm : c.φ 0 = fm at hro
   cases hro with
   | rowNil => simp at q; omega
   | rowCut => simp at q; omega
   | row _ _ b i n cp z k hg hro hz hz' h0' hn hcp hsg =>
    have hlen := hsg.len
    have hz1 : z = 1 := hz'
    subst hz1
    obtain ⟨hcut, hcutl⟩ := hsg.cut hn
    have hint := ints_seg hcutl hcut
    generalize hxs : ((k.es.drop i).take n).take lo.toNat ++ ((k.es.drop i).take n).drop hi.toNat ++ List.replicate (hi.toNat - lo.toNat) [VV.int .i64 0] = xs
    have hxl : xs.length = n := by rw [← hxs]; simp; omega
    have hle : (k.es.take i ++ xs ++ k.es.drop (i + xs.length)).length = k.es.length := by simp; omega
    obtain ⟨t1, t2, t3⟩ := turned hs.wf hg (k.org + i) (k.es.take i ++ xs ++ k.es.drop (i + xs.length)) hle
    have hop : xDelete [.slice b i n cp 1, .int .i64 lo, .int .i64 hi] h = some (.slice b i (n - (hi.toNat - lo.toNat)) cp 1, (match k.solo with | true => h | false => h.kill k.fam (k.org + i)).put b (.cells { k with es := k.es.take i ++ xs ++ k.es.drop (i + xs.length) })) := by
     simp only [xDelete, hg]
     rw [if_pos ⟨q.1.1, q.1.2, by omega, by omega, hz, hint⟩, hxs]
     unfold overwrite
     simp only [hg]
     rw [if_neg (by rw [hro]; simp; omega)]
     rfl
    have hdl : (delAt es lo.toNat hi.toNat).length = n - (hi.toNat - lo.toNat) := by unfold delAt; simp; omega
    obtain ⟨m1, m2⟩ := hs.moved (o := 0) (u := .row [.int .i64] (delAt es lo.toNat hi.toNat)) (v := .slice b i (n - (hi.toNat - lo.toNat)) cp 1) (fm := one k.fam) hnp t3 (fun f e => by rw [e]; exact isOne hfm) t2 (fun f e => by cases e; exact .inl (isOne hfm)) (by
     have hL2 := Later.dropAdd hs 0 (.slice b i (n - (hi.toNat - lo.toNat)) cp 1) (one k.fam) t3 (fun f e => by cases e; exact .inl (isOne hfm))
     have hk := hL2.keeps (fun f' hK' e => hs.ndK 0 _ (isOne hfm) (by rw [e] at hK'; exact hK'))
     refine .row [.int .i64] _ b i _ cp 1 { k with es := k.es.take i ++ xs ++ k.es.drop (i + xs.length) } t1 hro hz hz' h0' hdl.symm (fun q e => ⟨by have := (hcp q e).1; omega, by rw [hle]; exact (hcp q e).2⟩) ?_
     have hsk := hsg.keep hk
     refine ⟨by rw [hdl]; show _ ≤ (k.es.take i ++ xs ++ k.es.drop (i + xs.length)).length; rw [hle]; omega, fun j r cs h1 h2 => ?_⟩
     have hj : j < n - (hi.toNat - lo.toNat) := by rw [← hdl]; exact (List.getElem?_eq_some_iff.1 h1).1
     have hti : (k.es.take i).length = i := by simp; omega
     have h2 : (k.es.take i ++ xs ++ k.es.drop (i + xs.length))[i + j]? = some cs := h2
     rw [List.append_assoc, List.getElem?_append_right (by omega), hti, List.getElem?_append_left (by omega), show i + j - i = j by omega, ← hxs] at h2
     unfold delAt at h1
     by_cases hlo : j < lo.toNat
     ·rw [List.getElem?_append_left (by simp; omega), List.getElem?_take, if_pos hlo] at h1
      rw [List.append_assoc, List.getElem?_append_left (by simp; omega), List.getElem?_take, if_pos hlo, List.getElem?_take, if_pos (by omega), List.getElem?_drop] at h2
      exact hsk.at_ j r cs h1 h2
     ·have e1 : (es.take lo.toNat).length = lo.toNat := by simp; omega
      have e2 : (((k.es.drop i).take n).take lo.toNat).length = lo.toNat := by simp; omega
      rw [List.getElem?_append_right (by omega), e1, List.getElem?_drop] at h1
      rw [List.append_assoc, List.getElem?_append_right (by omega), e2, List.getElem?_append_left (by simp; omega), List.getElem?_drop, List.getElem?_take, if_pos (by omega), List.getElem?_drop] at h2
      exact hsk.at_ _ r cs h1 h2)
    have hnc : c.n = 1 := by rw [← hs.len]; rfl
    refine VC.told hX hop ?_
    refine ⟨_, _, _, m1, .own 1 _ ?_ ?_ (.inr ⟨_, _, _, _, _, rfl⟩), m2.mono (fun f e => ⟨0, by rw [e]; exact isOne hfm⟩), hK⟩
    ·show 1 < c.n + 1; omega
    ·show (if 1 = c.n then _ else _) = _
     rw [if_pos hnc.symm]
  ·cases hu
 ·cases hu
end
end Go.Proofs.Ythlbahcggmbfaaa.V

namespace Go.Proofs.Ythlbahcggmbfaaa.V
end Go.Proofs.Ythlbahcggmbfaaa.V

namespace Go.Proofs.Ythlbahcggmbfaaa.V
section
variable {P : Program} {c : Cx} {h : VHeap} {s : USt}
end
end Go.Proofs.Ythlbahcggmbfaaa.V

namespace Go.Proofs.Ythlbahcggmbfaaa.V
noncomputable def tbX (fu : Nat) : FuncId → Option (Bool × ToldF) := fun f => match Nat.beq f 58 with
 | true => some (true, toldDelete)
 | false => none
theorem tbX_sound (fu : Nat) : SoundF' Try.prog (tbX fu) := by
 intro f own told h
 unfold tbX at h
 split at h
 ·rename_i hb
  cases h
  have := Nat.eq_of_beq_eq_true hb; subst this
  exact delete_tells rfl
 ·cases h
end Go.Proofs.Ythlbahcggmbfaaa.V

namespace Go.Proofs.Ythlbahcggmbfaaa.V
def poolBack {R : Type} (p : Nat) (fts : List FT) (es : List (List D)) (i o : Nat) (s : USt) (K : USt → Option R) : Option R := match s.get o with
 | .obj cs => match toDs s fts cs, holds o cs with
  | some ds, false => letD (setAt es i ds) fun es2 => K (((freeze s cs).upd p (.pool fts es2 none)).upd o .lent)
  | _, _ => none
 | _ => none
def ppG (told : ToldF) : ToldF := fun R args s K => match args with
 | .pp p i :: rest => match poolOf s p with
  | some (fts, es) => letR (elem i es) fun row => match hasN (toldIds true (.ptr s.len 0 :: rest) ((s.upd p (.pool fts es (some i))).push (.obj (ofDs 0 fts row)))) p with
   | false => utold true told (.ptr s.len 0 :: rest) ((s.upd p (.pool fts es (some i))).push (.obj (ofDs 0 fts row))) fun v s2 => poolBack p fts es i s.len s2 fun s3 => K v s3
   | true => none
  | none => none
 | _ => told R args s K
section
variable {P : Program} {c : Cx} {h : VHeap} {s : USt}
def Cx.split (c : Cx) (p : Nat) (A : Nat → Prop) (v : VV) (B : Nat → Prop) : Cx := ⟨c.n + 1, fun o => if o = c.n then v else c.ρ o, c.K, fun q => if q = c.n then B else if q = p then A else c.φ q⟩
theorem pool_take (hs : RSt c h s) {p i : Nat} {fts : List FT} {es : List (List D)} (hp : s.get p = .pool fts es none) {v : VV} (hv : RV c h.get (.pp p i) v) :
  ∃ c1 f, RSt c1 h ((s.upd p (.pool fts es (some i))).push (.obj (ofDs 0 fts (elem i es)))) ∧ Later c h c1 h (fun _ => False) ∧ c1.n = c.n + 1 ∧ c1.ρ c.n = v ∧ c1.φ c.n = one f ∧ c.φ p f ∧ (∀ g, c1.φ p g → c.φ p g) := by
 cases hv with
 | pp _ _ b sv ps hpn hρ hpi =>
  rcases pool_obj hs hp with ⟨e1, _⟩ | ⟨bm, i0, n, cp, z, k, ps', fs, hρ2, hφ2, hg2, hro2, hesz2, hz2, h0, hn2, hcp2, hin2, hc2, hff2, hE2⟩
  ·rw [hρ] at e1
   simp only [VV.tuple.injEq, List.cons.injEq] at e1
   rw [e1.2] at hpi; cases hpi
  ·rw [hρ] at hρ2
   simp only [VV.tuple.injEq, List.cons.injEq] at hρ2
   obtain ⟨rfl, rfl⟩ := hρ2
   have hie : i < es.length := by rw [← hE2.len]; exact (List.getElem?_eq_some_iff.1 hpi).1
   have hei : es[i]? = some (elem i es) := by
    rw [List.getElem?_eq_getElem hie]
    unfold Go.Proofs.Ythlbahcggmbfaaa.V.elem
    rw [List.getD_eq_getElem?_getD, List.getElem?_eq_getElem hie]; rfl
   obtain ⟨kb, xs, g1, g2, g3, g4, g5, g6, g7, g8⟩ := hE2.at_ i _ b hei hpi (by simp)
   have hfp : ∀ j f, fs j = some f → c.φ p f := fun j f hf => by rw [hφ2]; exact .inr ⟨j, hf⟩
   have hpl : p < s.len := by rw [hs.len]; exact hpn
   have phi : ∀ q, (c.split p (fun f => f = k.fam ∨ ∃ j, (fun j => if j = i then none else fs j) j = some f) (.ptr b 0 0) (one kb.fam)).φ q = if q = c.n then one kb.fam else if q = p then (fun f => f = k.fam ∨ ∃ j, (fun j => if j = i then none else fs j) j = some f) else c.φ q := fun _ => rfl
   have hA : ∀ f, (f = k.fam ∨ ∃ j, (fun j => if j = i then none else fs j) j = some f) → c.φ p f ∧ f ≠ kb.fam := fun f hf => by
    rcases hf with rfl | ⟨j, hj⟩
    ·exact ⟨by rw [hφ2]; exact .inl rfl, fun e => hff2 i _ g2 e.symm⟩
    ·simp only at hj
     split at hj
     ·cases hj
     ·rename_i hji; exact ⟨hfp j f hj, fun e => hji (hE2.inj j i f hj (by rw [e]; exact g2))⟩
   have hlat : Later c h (c.split p (fun f => f = k.fam ∨ ∃ j, (fun j => if j = i then none else fs j) j = some f) (.ptr b 0 0) (one kb.fam)) h (fun _ => False) := by
    refine ⟨Nat.le_succ _, fun q hq => ?_, fun _ h => h, Nat.le_refl _, fun _ _ h _ => h, fun _ k h => ⟨k, h, rfl⟩, fun _ es h => ⟨es, h⟩, fun _ h => .inl h, fun q f hf => ?_, fun q f hq hf => ?_⟩
    ·show (if q = c.n then _ else c.ρ q) = _
     rw [if_neg (by omega)]
    ·rw [phi] at hf
     split at hf
     ·have e : f = kb.fam := hf
      exact .inr ⟨p, by rw [e]; exact hfp i _ g2⟩
     ·split at hf
      ·exact .inr ⟨p, (hA f hf).1⟩
      ·exact .inr ⟨q, hf⟩
    ·rw [phi, if_neg (by omega)] at hf
     split at hf
     ·rename_i e; subst e; exact (hA f hf).1
     ·exact hf
   refine ⟨c.split p (fun f => f = k.fam ∨ ∃ j, (fun j => if j = i then none else fs j) j = some f) (.ptr b 0 0) (one kb.fam), kb.fam, ⟨hs.wf, by rw [USt.len_push, USt.len_upd, hs.len]; rfl, fun q => ?_, fun q q' f h1 h2 => ?_, fun q f h1 hK => ?_, fun q f h1 => ?_, hs.ltK, fun q hq => ?_⟩, hlat, rfl, ?_, ?_, hfp i _ g2, fun g hg => ?_⟩
   ·rw [USt.get_push, USt.len_upd, hs.len, phi]
    show RO _ _ _ (if q = c.n then _ else c.ρ q) _
    split
    ·refine .obj _ b kb xs g1 g3 (by rw [ofDs_len, g4]) g5 g6 g7 ?_
     have := ofDs_rel (c := c) g8 0 fts.length (by omega)
     simp only [List.drop_zero] at this
     rw [List.take_of_length_le (Nat.le_refl _), List.take_of_length_le (by rw [g8.lenv]; exact Nat.le_refl _)] at this
     exact this.later hlat (fun _ _ h => h)
    ·rename_i hqn
     rw [USt.get_upd]
     by_cases hqp : q = p
     ·subst hqp
      rw [if_pos ⟨rfl, hpl⟩, if_pos rfl, hρ]
      refine .pool fts es (some i) bm i0 n cp z k ps _ hg2 hro2 hesz2 hz2 h0 hn2 hcp2 hin2 hc2 (fun j f hf => ?_) ⟨hE2.len, hE2.ptr, fun j j' f h1 h2 => ?_, fun j hj => ?_, fun j hj => ?_, fun j r b' h1 h2 h3 => ?_⟩
      ·split at hf
       ·cases hf
       ·exact hff2 j f hf
      ·split at h1
       ·cases h1
       ·split at h2
        ·cases h2
        ·exact hE2.inj j j' f h1 h2
      ·split
       ·rfl
       ·exact hE2.out j hj
      ·simp only [Option.some.injEq] at hj; subst hj; exact if_pos rfl
      ·rw [if_neg (fun e => h3 (by rw [e]))]
       obtain ⟨k', xs', a1, a2, a3, a4, a5, a6, a7, a8⟩ := hE2.at_ j r b' h1 h2 (by simp)
       exact ⟨k', xs', a1, a2, a3, a4, a5, a6, a7, a8.keep (hlat.keeps (fun _ _ h => h))⟩
     ·rw [if_neg (fun hh => hqp hh.1), if_neg hqp]
      exact (hs.obj q).later hlat (fun _ _ h => h) (fun _ _ h => h)
   ·rw [phi] at h1 h2
    split at h1 <;> split at h2
    ·omega
    ·have e1 : f = kb.fam := h1
     split at h2
     ·exact absurd e1 (hA f h2).2
     ·rename_i hq; exact absurd (hs.dis q' p f h2 (by rw [e1]; exact hfp i _ g2)) hq
    ·have e1 : f = kb.fam := h2
     split at h1
     ·exact absurd e1 (hA f h1).2
     ·rename_i hq; exact absurd (hs.dis q p f h1 (by rw [e1]; exact hfp i _ g2)) hq
    ·split at h1 <;> split at h2
     ·omega
     ·rename_i e1 _; rw [e1]; exact hs.dis p q' f (hA f h1).1 h2
     ·rename_i _ e2; rw [e2]; exact hs.dis q p f h1 (hA f h2).1
     ·exact hs.dis q q' f h1 h2
   ·rw [phi] at h1
    split at h1
    ·have e1 : f = kb.fam := h1
     exact hs.ndK p f (by rw [e1]; exact hfp i _ g2) hK
    ·split at h1
     ·exact hs.ndK p f (hA f h1).1 hK
     ·exact hs.ndK q f h1 hK
   ·rw [phi] at h1
    split at h1
    ·have e1 : f = kb.fam := h1
     exact hs.ltφ p f (by rw [e1]; exact hfp i _ g2)
    ·split at h1
     ·exact hs.ltφ p f (hA f h1).1
     ·exact hs.ltφ q f h1
   ·have hq : c.n + 1 ≤ q := hq
    show (if q = c.n then _ else c.ρ q) = _
    rw [if_neg (by omega)]; exact hs.und q (by omega)
   ·show (if c.n = c.n then _ else _) = _
    rw [if_pos rfl]
   ·rw [phi, if_pos rfl]
   ·rw [phi, if_neg (by omega), if_pos rfl] at hg
    exact (hA g hg).1
theorem pool_back {c2 : Cx} {h' : VHeap} {s2 : USt} (hs : RSt c2 h' s2) {p i o : Nat} {fts : List FT} {es : List (List D)} (hp : s2.get p = .pool fts es (some i)) {sv v : VV} {ps : List VV} (hρ : c2.ρ p = .tuple (sv :: ps)) (hpi : ps[i]? = some v) (ho : c2.ρ o = v) {R : Type} {K : USt → Option R} {r : R} (hb : poolBack p fts es i o s2 K = some r) :
  ∃ c4 s3, K s3 = some r ∧ RSt c4 h' s3 ∧ c4.n = c2.n ∧ c4.ρ = c2.ρ ∧ (∀ f, c2.K f → c4.K f) ∧ (∀ f, c4.K f → c2.K f ∨ ∃ q, c2.φ q f) ∧ (∀ q f, c4.φ q f → if q = p then c2.φ p f ∨ c2.φ o f else c2.φ q f) := by
 unfold poolBack at hb
 split at hb
 ·rename_i cs hcs
  split at hb
  ·rename_i ds hd hno
   have hb : K (((freeze s2 cs).upd p (.pool fts (setAt es i ds) none)).upd o .lent) = some r := hb
   obtain ⟨c3, b, k, xs, s3, l3, n3, r3, p3, ho3, hφ, hg, hes, hesz, hro, hso, hone, hrd⟩ := obj_data hs hcs hd hno
   have hp1 : (freeze s2 cs).get p = .pool fts es (some i) := freeze_pool hp
   have hpo : p ≠ o := fun e => by subst e; rw [hcs] at hp; cases hp
   have hpl : p < (freeze s2 cs).len := USt.lt_len (by rw [hp1]; simp)
   have hol : o < (freeze s2 cs).len := by rw [freeze_len]; exact USt.lt_len (by rw [hcs]; simp)
   have hf3 : c3.φ o k.fam := isOne hφ
   rcases pool_obj s3 hp1 with ⟨_, _, _, e1⟩ | ⟨bm, i0, n, cp, z, km, ps', fs, hρ2, hφ2, hg2, hro2, hesz2, hz2, h0, hn2, hcp2, hin2, hc2, hff2, hE2⟩
   ·cases e1
   ·rw [r3, hρ] at hρ2
    simp only [VV.tuple.injEq, List.cons.injEq] at hρ2
    obtain ⟨rfl, rfl⟩ := hρ2
    have hmain : c3.φ p km.fam := by rw [hφ2]; exact .inl rfl
    have hfp : ∀ j f, fs j = some f → c3.φ p f := fun j f hf => by rw [hφ2]; exact .inr ⟨j, hf⟩
    have hie : i < es.length := by rw [← hE2.len]; exact (List.getElem?_eq_some_iff.1 hpi).1
    have hv : v = .ptr b 0 0 := ho.symm.trans ho3
    subst hv
    have hpset : ps.set i (.ptr b 0 0) = ps := by
     apply List.ext_getElem?
     intro j
     rw [List.getElem?_set]
     split
     ·rename_i e; subst e
      rw [if_pos (List.getElem?_eq_some_iff.1 hpi).1, hpi]
     ·rfl
    have hkm : k.fam ≠ km.fam := fun e => hpo (s3.dis p o _ (by rw [e]; exact hmain) hf3)
    have hE3 := hE2.set (fun j hj => by simp only [Option.some.injEq] at hj; exact hj.symm) hie hg hes hesz hro hso hone hrd (fun j _ hj => hpo (s3.dis p o _ (hfp j _ hj) hf3))
    rw [hpset] at hE3
    refine ⟨⟨c3.n, c3.ρ, c3.K, fun q => if q = o then nof else if q = p then (fun f => f = km.fam ∨ ∃ j, (fun j => if j = i then some k.fam else fs j) j = some f) else c3.φ q⟩, _, hb, ?_, n3, r3, l3.K, fun f hf => ?_, fun q f hf => ?_⟩
    ·have hA : ∀ f, (f = km.fam ∨ ∃ j, (fun j => if j = i then some k.fam else fs j) j = some f) → c3.φ p f ∨ c3.φ o f := fun f hf => by
      rcases hf with rfl | ⟨j, hj⟩
      ·exact .inl hmain
      ·simp only at hj
       split at hj
       ·simp only [Option.some.injEq] at hj; subst hj; exact .inr hf3
       ·exact .inl (hfp j f hj)
     refine ⟨hs.wf, by rw [USt.len_upd, USt.len_upd]; exact s3.len, fun q => ?_, fun q q' f h1 h2 => ?_, fun q f h1 hK => ?_, fun q f h1 => ?_, s3.ltK, s3.und⟩
     ·rw [USt.get_upd, USt.len_upd, USt.get_upd]
      show RO _ _ _ (c3.ρ q) (if q = o then nof else if q = p then _ else c3.φ q)
      by_cases hqo : q = o
      ·rw [if_pos ⟨hqo, hol⟩, if_pos hqo]; exact .lent _
      ·rw [if_neg (fun hh => hqo hh.1), if_neg hqo]
       by_cases hqp : q = p
       ·subst hqp
        rw [if_pos ⟨rfl, hpl⟩, if_pos rfl, r3, hρ]
        refine .pool fts (es.set i ds) none bm i0 n cp z km ps _ hg2 hro2 hesz2 hz2 h0 (by simp [hn2]) hcp2 hin2 hc2 (fun j f hf => ?_) hE3
        split at hf
        ·simp only [Option.some.injEq] at hf; subst hf; exact hkm
        ·exact hff2 j f hf
       ·rw [if_neg (fun hh => hqp hh.1), if_neg hqp]
        refine RO.moreK ?_ ?_ ?_ (s3.obj q)
        ·rfl
        ·rfl
        ·exact fun _ h => h
     ·have h1 : (if q = o then nof else if q = p then (fun f => f = km.fam ∨ ∃ j, (fun j => if j = i then some k.fam else fs j) j = some f) else c3.φ q) f := h1
      have h2 : (if q' = o then nof else if q' = p then (fun f => f = km.fam ∨ ∃ j, (fun j => if j = i then some k.fam else fs j) j = some f) else c3.φ q') f := h2
      by_cases a1 : q = o
      ·rw [if_pos a1] at h1; cases h1
      by_cases a2 : q' = o
      ·rw [if_pos a2] at h2; cases h2
      rw [if_neg a1] at h1
      rw [if_neg a2] at h2
      by_cases b1 : q = p <;> by_cases b2 : q' = p
      ·omega
      ·rw [if_pos b1] at h1; rw [if_neg b2] at h2
       rcases hA f h1 with h3 | h3
       ·exact absurd (s3.dis q' p f h2 h3) b2
       ·exact absurd (s3.dis q' o f h2 h3) a2
      ·rw [if_neg b1] at h1; rw [if_pos b2] at h2
       rcases hA f h2 with h3 | h3
       ·exact absurd (s3.dis q p f h1 h3) b1
       ·exact absurd (s3.dis q o f h1 h3) a1
      ·rw [if_neg b1] at h1; rw [if_neg b2] at h2; exact s3.dis q q' f h1 h2
     ·have h1 : (if q = o then nof else if q = p then (fun f => f = km.fam ∨ ∃ j, (fun j => if j = i then some k.fam else fs j) j = some f) else c3.φ q) f := h1
      split at h1
      ·cases h1
      ·split at h1
       ·rcases hA f h1 with h3 | h3
        ·exact s3.ndK p f h3 hK
        ·exact s3.ndK o f h3 hK
       ·exact s3.ndK q f h1 hK
     ·have h1 : (if q = o then nof else if q = p then (fun f => f = km.fam ∨ ∃ j, (fun j => if j = i then some k.fam else fs j) j = some f) else c3.φ q) f := h1
      split at h1
      ·cases h1
      ·split at h1
       ·rcases hA f h1 with h3 | h3
        ·exact s3.ltφ p f h3
        ·exact s3.ltφ o f h3
       ·exact s3.ltφ q f h1
    ·rcases l3.newK f hf with h1 | h1 | h1
     ·exact .inl h1
     ·have := s3.ltK f hf; omega
     ·exact .inr h1
    ·have hf : (if q = o then nof else if q = p then (fun f => f = km.fam ∨ ∃ j, (fun j => if j = i then some k.fam else fs j) j = some f) else c3.φ q) f := hf
     split at hf
     ·cases hf
     ·split at hf
      ·rename_i e
       rw [if_pos e]
       rcases hf with rfl | ⟨j, hj⟩
       ·exact .inl (p3 p _ hmain)
       ·simp only at hj
        split at hj
        ·simp only [Option.some.injEq] at hj; subst hj; exact .inr (p3 o _ hf3)
        ·exact .inl (p3 p _ (hfp j f hj))
      ·rename_i e
       rw [if_neg e]; exact p3 q f hf
  ·cases hb
 ·cases hb
theorem ppG_sound {g : FuncId} {told : ToldF} (ht : Tells P g told) : Tells P g (ppG told) := by
 intro R args s K r hu c h vargs hs hr
 unfold ppG at hu
 split at hu
 ·rename_i p i rest
  split at hu
  ·rename_i fts es hp
   have hp := poolOf_some hp
   simp only [letR] at hu
   split at hu
   ·rename_i hno
    match vargs, hr.1, hr with
    | v :: vs, _, hr =>
     have hv := hr.head
     obtain ⟨sv, ps, hρ, hpi⟩ : ∃ sv ps, c.ρ p = .tuple (sv :: ps) ∧ ps[i]? = some v := by
      cases hv with
      | pp _ _ b sv ps hpn hρ hpi => exact ⟨sv, ps, hρ, hpi⟩
     have hpn : p < c.n := by rw [← hs.len]; exact USt.lt_len (by rw [hp]; simp)
     obtain ⟨c1, f0, s1, l1, n1, v1, f1, f2, f3⟩ := pool_take hs hp hv
     have hr1 : RVs c1 h.get (.ptr s.len 0 :: rest) (v :: vs) := by
      refine RVs.cons ?_ (hr.tail.later l1 (fun _ _ h => h))
      cases hv with
      | pp _ _ b sv ps hpn hρ hpi => exact .ptr _ _ b (by rw [n1, hs.len]; exact Nat.lt_succ_self _) (by rw [hs.len]; exact v1)
     refine (utold_own ht hu s1 hr1).mono ?_
     rintro w h' ⟨u, s2, c2, q1, q2, q3, q5, q4⟩
     ·have hl1 : ((s.upd p (.pool fts es (some i))).push (.obj (ofDs 0 fts (elem i es)))).len = c.n + 1 := by rw [USt.len_push, USt.len_upd, hs.len]
      have hp2 : s2.get p = .pool fts es (some i) := by
       rw [q5 p (by rw [hl1]; omega) (fun hm => by rw [hasN_iff.2 hm] at hno; cases hno), USt.get_push, USt.len_upd, if_neg (by rw [hs.len]; omega), USt.get_upd, if_pos ⟨rfl, by rw [hs.len]; exact hpn⟩]
      have hρ2 : c2.ρ p = .tuple (sv :: ps) := by rw [q3.ρ p (by rw [n1]; omega), l1.ρ p hpn]; exact hρ
      have ho2 : c2.ρ s.len = v := by rw [q3.ρ s.len (by rw [n1, hs.len]; exact Nat.lt_succ_self _), hs.len]; exact v1
      obtain ⟨c4, s3, q4, r1, r2, r3, r4, r5, r6⟩ := pool_back q1 hp2 hρ2 hpi ho2 q4
      have hL2 : Later c h c2 h' c.fams := by
       have q3' : Later c1 h c2 h' c1.fams := q3.mono (fun f ⟨o, _, ho⟩ => ⟨o, ho⟩)
       exact (l1.mono (fun _ h => h.elim)).trans' q3' hs.wf
      have hold : ∀ o f, o < c.n → c4.φ o f → c.φ o f := fun o f ho hf => by
       have h6 := r6 o f hf
       split at h6
       ·rename_i e; subst e
        rcases h6 with h7 | h7
        ·exact hL2.oldφ o f ho h7
        ·have h8 := q3.oldφ s.len f (by rw [n1, hs.len]; exact Nat.lt_succ_self _) h7
         rw [hs.len] at h8
         rw [oneOf f1 h8]; exact f2
       ·exact hL2.oldφ o f ho h6
      refine ⟨u, s3, c4, r1, q2.sameK r2.symm r3.symm r4, ⟨by rw [r2]; exact hL2.n, fun o ho => by rw [r3]; exact hL2.ρ o ho, fun f hf => r4 f (hL2.K f hf), hL2.next, hL2.same, hL2.fam, hL2.mp, fun f hf => ?_, fun o f hf => ?_, hold⟩, q4⟩
      ·rcases r5 f hf with h6 | ⟨q, h6⟩
       ·exact hL2.newK f h6
       ·rcases hL2.newφ q f h6 with h7 | h7
        ·exact .inr (.inl h7)
        ·exact .inr (.inr h7)
      ·have h6 := r6 o f hf
       split at h6
       ·rcases h6 with h7 | h7
        ·exact hL2.newφ p f h7
        ·exact hL2.newφ s.len f h7
       ·exact hL2.newφ o f h6
   ·cases hu
  ·cases hu
 ·exact ht R args s K r hu c h vargs hs hr
end
end Go.Proofs.Ythlbahcggmbfaaa.V

namespace Go.Proofs.Ythlbahcggmbfaaa.V
universe u
noncomputable def shut {α : Sort u} (a : α) : α := Classical.choose (⟨a, rfl⟩ : ∃ b, b = a)
theorem shut_eq {α : Sort u} (a : α) : shut a = a := Classical.choose_spec (⟨a, rfl⟩ : ∃ b, b = a)
end Go.Proofs.Ythlbahcggmbfaaa.V

