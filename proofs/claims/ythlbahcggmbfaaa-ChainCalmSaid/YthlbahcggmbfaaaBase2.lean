import Derived.Test.YthlbahcggmbfaaaBase1
import Derived.StillTail
import Derived.Deep.Slices
import Derived.OpenShut
import Derived.HandedShaped
import Derived.ChangeOld
import Derived.Carry
import Derived.WalkKit
import Derived.ProofKit
set_option linter.unusedVariables false
set_option linter.unusedSimpArgs false

namespace Go.Proofs.Ythlbahcggmbfaaa.V
open Go.RowKit
section
variable {P : Program} {ρ : Ren} {w : World}
theorem ES {kt : TypeId} {key : VV} {mk : Value} (h : Ab P kt key = true) (hk : Y0 ρ key mk) (d : TypeDesc) (hd : P.underlying kt = some d) :
  ∀ (es : List (VV × VV)) (P4 : List MapEntry) (r : Option VV) (i0 : Nat), X2 key es = some r -> es.length = P4.length ->
   (∀ (i : Nat) p m, es[i]? = some p -> P4[i]? = some m -> Y0 ρ p.1 m.key /\ Y0 ρ p.2 m.val) ->
   (r = none /\ Instr.findNow d mk P4 i0 = some none /\ (∀ val, H8 key val es = es ++ [(key, val)]) /\ l7 key es = es /\ ∀ m ∈ P4, m.key ≠ mk) \/
   ∃ i mv m, Instr.findNow d mk P4 i0 = some (some (i0 + i, mv)) /\ P4[i]? = some m /\ Instr.sameBits 10000 m.key mk = true /\ (∀ val, H8 key val es = es.set i (key, val)) /\ l7 key es = es.eraseIdx i /\ m.key = mk
 | [], P4, r, i0, hf, hl, _ => by
  have : P4 = [] := List.eq_nil_of_length_eq_zero hl.symm
  subst this
  simp [X2] at hf; subst hf
  exact .inl ⟨rfl, rfl, fun _ => rfl, rfl, by simp⟩
 | (k, v) :: es, [], r, i0, hf, hl, _ => by simp at hl
 | (k, v) :: es, m :: P4, r, i0, hf, hl, U3 => by
  obtain ⟨UG, sJ⟩ := U3 0 _ _ rfl rfl
  simp only at UG sJ
  have ih := ES h hk d hd es P4 r (i0 + 1)
  have step : ∀ b, Instr.sameNow d mk m.key = some b -> (b = true -> Instr.sameBits 10000 m.key mk = true /\ m.key = mk) -> (b = false -> m.key ≠ mk) -> X2 key ((k, v) :: es) = (if b then some (some v) else X2 key es) ->
    (∀ val, H8 key val ((k, v) :: es) = if b then (key, val) :: es else (k, v) :: H8 key val es) -> l7 key ((k, v) :: es) = (if b then es else (k, v) :: l7 key es) ->
    (r = none /\ Instr.findNow d mk (m :: P4) i0 = some none /\ (∀ val, H8 key val ((k, v) :: es) = (k, v) :: es ++ [(key, val)]) /\ l7 key ((k, v) :: es) = (k, v) :: es /\ ∀ m' ∈ m :: P4, m'.key ≠ mk) \/
    ∃ i mv m', Instr.findNow d mk (m :: P4) i0 = some (some (i0 + i, mv)) /\ (m :: P4)[i]? = some m' /\ Instr.sameBits 10000 m'.key mk = true /\ (∀ val, H8 key val ((k, v) :: es) = ((k, v) :: es).set i (key, val)) /\ l7 key ((k, v) :: es) = ((k, v) :: es).eraseIdx i /\ m'.key = mk := by
   intro b hb vr qu h2 h3 h4
   rw [h2] at hf
   cases b with
   | true =>
    exact .inr ⟨0, m.val, m, by simp [Instr.findNow, hb], rfl, (vr rfl).1, fun val => by rw [h3]; rfl, by rw [h4]; rfl, (vr rfl).2⟩
   | false =>
    simp only [Bool.false_eq_true, if_false] at hf h3 h4
    rcases ih hf (by simpa using hl) (fun i p q a b => U3 (i + 1) p q (by simpa using a) (by simpa using b)) with ⟨q1, q2, q3, q4, q5⟩ | ⟨i, mv, m', q1, q2, q3, q4, q5, q6⟩
    ·exact .inl ⟨q1, by simp [Instr.findNow, hb, q2], fun val => by rw [h3, q3]; rfl, by rw [h4, q4], fun m' hm => by
      rcases List.mem_cons.1 hm with rfl | hm
      ·exact qu rfl
      ·exact q5 m' hm⟩
    ·exact .inr ⟨i + 1, mv, m', by simp [Instr.findNow, hb, q1]; omega, by simpa using q2, q3, fun val => by rw [h3, q4]; rfl, by rw [h4, q5]; rfl, q6⟩
  unfold Ab at h
  rw [hd] at h
  split at h
  ·rename_i k' kk n cS
   simp only [U0] at cS; subst cS
   cases hk
   cases k <;> first | (simp only [X2] at hf; cases hf; done) | skip
   rename_i kb y
   have U9 : m.key = .int kb y := by generalize m.key = q at UG; cases UG; rfl
   by_cases mI : kk = kb
   ·subst mI
    refine step (n == y) (by rw [U9]; simp [Instr.sameNow]) (fun e => ?_) (fun e => ?_) ?_ (fun val => ?_) ?_
    ·have e : n = y := by simpa using e
     subst e
     rw [U9]; simp [Instr.sameBits]
    ·have e : ¬ n = y := by simpa using e
     rw [U9]; intro h; cases h; exact e rfl
    ·simp only [X2, if_true]; by_cases e2 : n = y <;> simp [e2]
    ·simp only [H8]; by_cases e2 : n = y <;> simp [e2]
    ·simp only [l7]; by_cases e2 : n = y <;> simp [e2]
   ·simp only [X2, mI, if_false] at hf
    cases hf
  ·rename_i s cS
   simp only [U0] at cS; subst cS
   cases hk
   cases k <;> first | (simp only [X2] at hf; cases hf; done) | skip
   rename_i y
   have U9 : m.key = .string y := by generalize m.key = q at UG; cases UG; rfl
   refine step (s == y) (by rw [U9]; simp [Instr.sameNow]) (fun e => ?_) (fun e => ?_) ?_ (fun val => ?_) ?_
   ·have e0 : s = y := by
     rw [beq_toListBytes] at e
     have e : s.toList = y.toList := by simpa using e
     rw [ByteArray.toList_eq, ByteArray.toList_eq] at e
     obtain ⟨⟨x⟩⟩ := s
     obtain ⟨⟨y⟩⟩ := y
     simpa using e
    refine ⟨?_, by rw [U9, e0]⟩
    rw [U9]
    simp only [Instr.sameBits, beq_toListBytes] at e ⊢
    have e : s.toList = y.toList := by simpa using e
    rw [e]; simp
   ·rw [U9]; intro h; cases h; rw [beq_toListBytes] at e; simp at e
   ·simp only [X2, beq_toListBytes]; by_cases e2 : s.toList = y.toList <;> simp [e2]
   ·simp only [H8, beq_toListBytes]; by_cases e2 : s.toList = y.toList <;> simp [e2]
   ·simp only [l7, beq_toListBytes]; by_cases e2 : s.toList = y.toList <;> simp [e2]
  ·cases h
theorem Dz {r : Nat} {P4 : Array MapEntry} {clock : Nat} (o : Obj) (ho : ∀ a b c, o ≠ .cells a b c) (h : w.heap[r]? = some (.map P4 clock)) :
  ∃ w', (setObj r o).run P w = .ok () w' /\ Jk w w' r /\ w'.heap[r]? = some o := by
 have R3 : r < w.heap.size := (Array.getElem?_eq_some_iff.1 h).1
 refine ⟨{ w with heap := w.heap.setIfInBounds r o }, ?_, ⟨by simp, rfl, rfl, rfl, fun k hk => ?_⟩, by simp [R3]⟩
 ·cases o <;> first | (exact absurd rfl (ho _ _ _)) | simp [setObj, Sem.run, h]
 ·simp [Array.getElem?_setIfInBounds_ne (Ne.symm hk)]
theorem step_map {h : A0} {w' : World} (hR : Rel ρ h.get w) (hw : WF h.get h.next) {b : Nat} {l : Loc} {es Aw : List (VV × VV)} (hb : ρ b = some l) (hg : h.get b = some (.map es)) {o : Obj}
  (hm : w'.heap[l.mb]? = some o) (B2 : Cg ρ l (.map Aw) (some o)) (ho : Jk w w' l.mb) : Step ρ h.get h.next w ρ (h.put b (.map Aw)).get (h.put b (.map Aw)).next w' := by
 have R3 := A0.E7 hg
 have gp : ∀ b', (h.put b (.map Aw)).get b' = if b' = b then some (.map Aw) else h.get b' := fun b' => A0.Cy h b _ R3 b'
 have Ay : ∀ b' k, (h.put b (.map Aw)).get b' = some (.cells k) -> h.get b' = some (.cells k) := by
  intro b' k h'
  rw [gp] at h'
  split at h'
  ·cases h'
  ·exact h'
 have U3 : Rel ρ (h.put b (.map Aw)).get w' := by
  refine ⟨fun b2 l2 h2 => ?_, fun b1 b2 l1 l2 o1 o2 h1 h2 g1 g2 Y3 Ek => ?_⟩
  ·by_cases Cw : b2 = b
   ·subst Cw
    rw [hb] at h2; simp only [U0] at h2; subst h2
    exact ⟨_, by rw [gp, if_pos rfl], by rw [hm]; exact B2⟩
   ·obtain ⟨o2, Od, hr⟩ := hR.obj b2 l2 h2
    refine ⟨o2, by rw [gp, if_neg Cw]; exact Od, ?_⟩
    by_cases Ek : l2.mb = l.mb
    ·obtain ⟨_, _, _, e2, _⟩ := hR.apart b2 b l2 l _ _ h2 hb Od hg Cw Ek
     cases e2
    ·rw [ho.other l2.mb Ek]; exact hr
  ·have key : ∀ b l o, ρ b = some l -> (h.put b (.map Aw)).get b = some o -> True := fun _ _ _ _ _ => trivial
   rw [gp] at g1 g2
   split at g1
   ·rename_i e1; subst e1
    obtain ⟨p2, q2, _⟩ := hR.obj b2 l2 h2
    obtain ⟨_, _, e2, _⟩ := hR.apart b1 b2 l1 l2 _ _ h1 h2 hg q2 Y3 Ek
    cases e2
   ·split at g2
    ·rename_i e2; subst e2
     obtain ⟨p1, q1, _⟩ := hR.obj b1 l1 h1
     obtain ⟨_, _, _, e2, _⟩ := hR.apart b1 b2 l1 l2 _ _ h1 h2 q1 hg Y3 Ek
     cases e2
    ·exact hR.apart b1 b2 l1 l2 o1 o2 h1 h2 g1 g2 Y3 Ek
 refine ⟨hR, U3, ⟨fun b' o' H3 => A0.E7 H3, fun b' k H3 => hw.Q1 b' k (Ay b' k H3), fun b' k H3 hs b2 k2 h2 Y3 => hw.Q2 b' k (Ay b' k H3) hs b2 k2 (Ay b2 k2 h2) Y3,
  fun b' k H3 hl b2 k2 h2 hf => hw.last b' k (Ay b' k H3) hl b2 k2 (Ay b2 k2 h2) hf, fun b' k H3 hl b2 k2 h2 hf Iu => hw.Gq b' k (Ay b' k H3) hl b2 k2 (Ay b2 k2 h2) hf Iu⟩,
  Ren.le.refl ρ, Nat.le_refl _, ho.os, ho.tape, ho.output, by rw [ho.size]; exact Nat.le_refl _, fun B hB X7 => ?_, fun _ _ h => .inl h, fun b' k H3 => ?_, fun b' vH H3 => ?_⟩
 ·refine ho.other B fun e => ?_
  obtain ⟨k1, El, _⟩ := X7 b l hb e.symm
  rw [hg] at El; cases El
 ·refine ⟨k, ?_, rfl⟩
  rw [gp, if_neg (fun e => by subst e; rw [hg] at H3; cases H3)]
  exact H3
 ·rw [gp]
  split
  ·exact ⟨_, rfl⟩
  ·exact ⟨vH, H3⟩
theorem Ej {h h' : A0} {t : TypeId} {m key val : VV} {mm mk iH : Value} (K0 : CH P t m key val h = some h') (hm : Y0 ρ m mm) (hk : Y0 ρ key mk) (hv : Y0 ρ val iH)
  (hR : Rel ρ h.get w) (hw : WF h.get h.next) : ∃ w', (Instr.mapUpdate t mm mk iH).run P w = .ok () w' /\ Step ρ h.get h.next w ρ h'.get h'.next w' := by
 unfold CH at K0
 split at K0
 ·rename_i kt et b hu
  split at K0
  ·rename_i D7
   split at K0
   ·rename_i es hg
    split at K0
    ·rename_i r hf
     simp only [U0] at K0; subst K0
     cases hm with
     | map _ l hb =>
     obtain ⟨o, ho, hr⟩ := hR.obj b l hb
     rw [hg] at ho; simp only [U0] at ho; subst ho
     have Gi := hr
     generalize TH : w.heap[l.mb]? = mo at Gi
     cases Gi with
     | map es P4 clock hl J6 U3 =>
     obtain ⟨kd, Qu⟩ : ∃ d, P.underlying kt = some d := by
      unfold Ab at D7
      split at D7
      ·exact ⟨_, ‹_›⟩
      ·exact ⟨_, ‹_›⟩
      ·cases D7
     rcases ES D7 hk kd Qu es P4.toList r 0 hf (by simpa using hl) (fun i p q a b => U3 i p q a (by simpa using b)) with ⟨_, h1, h2, _, h5⟩ | ⟨i, mv, me, h1, h2, h3, h4, _, h5⟩
     ·obtain ⟨w', j4, T9, hh⟩ := Dz (P := P) (w := w) (r := l.mb) (.map (P4.push { key := mk, val := iH, born := clock }) (clock + 1)) (fun _ _ _ e => by cases e) TH
      refine ⟨w', ?_, step_map hR hw hb hg hh ?_ T9⟩
      ·simp only [Instr.mapUpdate, Sem.run_bind, run_underlying hu, Result.andThen_ok, J9 w TH, v5 w D7 hk, Instr.findKey, run_underlying Qu, h1, Sem.run_pure, j4]
      ·rw [h2]
       refine Cg.map _ _ _ (by simp [hl]) (MapKept.stamped_push J6 h5) fun j p q hp hq => ?_
       rw [Array.getElem?_push] at hq
       split at hq
       ·rename_i e
        simp only [U0] at hq; subst hq
        rw [List.getElem?_append_right (by omega), e, hl, Nat.sub_self] at hp
        simp only [List.getElem?_cons_zero, U0] at hp; subst hp
        exact ⟨hk, hv⟩
       ·have hj : j < es.length := by rw [hl]; exact (Array.getElem?_eq_some_iff.1 hq).1
        rw [List.getElem?_append_left hj] at hp
        exact U3 j p q hp hq
     ·have hi : P4[i]? = some me := by simpa using h2
      obtain ⟨w', j4, T9, hh⟩ := Dz (P := P) (w := w) (r := l.mb) (.map (P4.modify i fun e => { e with key := mk, val := iH }) clock) (fun _ _ _ e => by cases e) TH
      refine ⟨w', ?_, step_map hR hw hb hg hh ?_ T9⟩
      ·rw [Nat.zero_add] at h1
       simp only [Instr.mapUpdate, Sem.run_bind, run_underlying hu, Result.andThen_ok, J9 w TH, v5 w D7 hk, Instr.findKey, run_underlying Qu, h1, Sem.run_pure, hi, Option.map_some, Option.getD_some, Instr.keyThatStays, h3, if_true, j4]
      ·rw [h4]
       refine Cg.map _ _ _ (by simp [hl]) (MapKept.stamped_modify J6 i _ (fun _ _ => rfl) (fun e _ he => by rw [hi] at he; cases he; exact h5.symm)) fun j p q hp hq => ?_
       rw [Array.getElem?_modify] at hq
       rw [List.getElem?_set] at hp
       split at hq
       ·rename_i e; subst e
        rw [if_pos rfl] at hp
        split at hp
        ·simp only [U0] at hp; subst hp
         simp only [Option.map_eq_some_iff] at hq
         obtain ⟨q0, _, rfl⟩ := hq
         exact ⟨hk, hv⟩
        ·cases hp
       ·rename_i e
        rw [if_neg e] at hp
        exact U3 j p q hp hq
    ·cases K0
   ·cases K0
  ·cases K0
 ·cases K0
theorem Eh {h h' : A0} {b i n z : Nat} {c : Option Nat} {mv : Value} {xs : List (List VV)} (K0 : overwrite h b i xs = some h') (hv : Y0 ρ (.slice b i n c z) mv)
  (hx : ∀ cs ∈ xs, cs.length = z /\ cs.all H2 = true) (ms : List Value) (Dj : P2 ρ xs.flatten ms) (hn : xs.length <= n) (hR : Rel ρ h.get w) (hw : WF h.get h.next) :
  ∃ a o5 w', mv = .slice (some a) n o5 /\ (storeCells a ms).run P w = .ok () w' /\ Step ρ h.get h.next w ρ h'.get h'.next w' := by
 unfold overwrite at K0
 split at K0
 ·rename_i k hg
  split at K0
  ·cases K0
  ·rename_i hc
   simp only [not_or, Nat.not_lt, Bool.not_eq_true] at hc
   obtain ⟨B2, U8⟩ := hc
   simp only [U0] at K0; subst K0
   cases hv with
   | slice _ _ _ _ _ l a o5 hb NU oa hm UJ ho ha =>
   obtain ⟨o, Fg, hr⟩ := hR.obj b l hb
   rw [hg] at Fg; simp only [U0] at Fg; subst Fg
   have sW : k.L3 = l.L3 := by
    generalize w.heap[l.mb]? = m at hr
    cases hr with
    | cells k c t fr Gi hs he h0 U8 Ib hc => exact he
   obtain ⟨w', J6, E3⟩ := KC (P := P) hR hw hb hg B2 i xs U8 (fun cs Q3 => ⟨(hx cs Q3).1.trans (NU.symm.trans sW.symm), (hx cs Q3).2⟩) ms Dj
   rcases ha with ha | ⟨h0, XC⟩
   ·exact ⟨a, o5, w', rfl, by rw [ha]; exact J6, E3⟩
   ·have jg : xs = [] := List.eq_nil_of_length_eq_zero (by omega)
    subst jg
    have Rg : ms = [] := Dj.of_nil
    subst Rg
    simp only [storeCells, Sem.run_pure] at J6
    cases J6
    exact ⟨a, _, w, rfl, rfl, E3⟩
 ·cases K0
def kN (P : Program) (a : Act) (w : World) (o : Oper) (mv : Value) (w' : World) : Prop :=
 (execOp a.eval o).run P w = .ok (.value mv) w' \/ ((execOp a.eval o).run P w = .ok .skip w' /\ mv = undef)
def Jf : Op -> Bool
 | .call { callee := .value _, .. } => true
 | .call { callee := .invoke _ _, .. } => true
 | _ => false
theorem RK {h h' : A0} {t : TypeId} {m k v : VV} {mm mk : Value} {ty : TypeId} {kt et : TypeId} {b : Nat} (hu : P.underlying t = some (.map kt et)) (Ek : m = .map b) (D7 : Ab P kt k = true)
  {es : List (VV × VV)} (hg : h.get b = some (.map es)) {r : Option VV} (hf : X2 k es = some r) (he : v = .tuple [] /\ h' = h.put b (.map (l7 k es)))
  (hm : Y0 ρ m mm) (hk : Y0 ρ k mk) (hR : Rel ρ h.get w) (hw : WF h.get h.next) :
  ∃ w', (Builtin.delete_ #[t] ty #[mm, mk]).run P w = .ok (.tuple #[]) w' /\ Step ρ h.get h.next w ρ h'.get h'.next w' := by
 obtain ⟨rfl, rfl⟩ := he
 subst Ek
 cases hm with
 | map _ l hb =>
 obtain ⟨o, ho, hr⟩ := hR.obj b l hb
 rw [hg] at ho; simp only [U0] at ho; subst ho
 generalize TH : w.heap[l.mb]? = mo at hr
 cases hr with
 | map es P4 clock hl J6 U3 =>
 obtain ⟨kd, Qu⟩ : ∃ d, P.underlying kt = some d := by
  unfold Ab at D7
  split at D7
  ·exact ⟨_, ‹_›⟩
  ·exact ⟨_, ‹_›⟩
  ·cases D7
 rcases ES D7 hk kd Qu es P4.toList r 0 hf (by simpa using hl) (fun i p q a b => U3 i p q a (by simpa using b)) with ⟨_, h1, _, h2, _⟩ | ⟨i, mv, me, h1, h2, _, _, h4, _⟩
 ·obtain ⟨w', j4, T9, hh⟩ := Dz (P := P) (w := w) (r := l.mb) (.map P4 clock) (fun _ _ _ e => by cases e) TH
  refine ⟨w', ?_, step_map hR hw hb hg hh ?_ T9⟩
  ·simp only [Builtin.delete_, List.getElem?_toArray, List.getElem?_cons_zero, List.getElem?_cons_succ, Sem.run_bind, run_underlying hu, Result.andThen_ok, J9 w TH, v5 w D7 hk, Instr.findKey, run_underlying Qu, h1, Sem.run_pure, j4]
  ·rw [h2]; exact Cg.map _ _ _ hl J6 U3
 ·have hi : P4[i]? = some me := by simpa using h2
  obtain ⟨w', j4, T9, hh⟩ := Dz (P := P) (w := w) (r := l.mb) (.map (P4.eraseIdxIfInBounds i) clock) (fun _ _ _ e => by cases e) TH
  have R3 : i < P4.size := (Array.getElem?_eq_some_iff.1 hi).1
  refine ⟨w', ?_, step_map hR hw hb hg hh ?_ T9⟩
  ·rw [Nat.zero_add] at h1
   simp only [Builtin.delete_, List.getElem?_toArray, List.getElem?_cons_zero, List.getElem?_cons_succ, Sem.run_bind, run_underlying hu, Result.andThen_ok, J9 w TH, v5 w D7 hk, Instr.findKey, run_underlying Qu, h1, Sem.run_pure, j4]
  ·rw [h4]
   have e : (P4.eraseIdxIfInBounds i).toList = P4.toList.eraseIdx i := by
    simp [Array.eraseIdxIfInBounds, R3]
   refine Cg.map _ _ _ (by
    have := congrArg List.length e
    simp only [Array.length_toList] at this
    rw [this, List.length_eraseIdx, List.length_eraseIdx, hl, Array.length_toList]) (MapKept.stamped_erase J6 i) fun j p q hp hq => ?_
   have fj : (P4.eraseIdxIfInBounds i).toList[j]? = some q := by rw [Array.getElem?_toList]; exact hq
   rw [e, List.getElem?_eraseIdx] at fj
   rw [List.getElem?_eraseIdx] at hp
   split at hp
   ·rename_i Rh; rw [if_pos Rh] at fj; exact U3 j p q hp (by simpa using fj)
   ·rename_i Rh; rw [if_neg Rh] at fj; exact U3 (j + 1) p q hp (by simpa using fj)
theorem IB (z : Nat) : ∀ (xs : List (List VV)) (q : Nat), (∀ cs ∈ xs, cs.length = z) -> (xs.take q).flatten = xs.flatten.take (q * z)
 | [], q, _ => by simp
 | c0 :: xs, 0, _ => by simp
 | c0 :: xs, q + 1, h => by
  have Yt := h c0 (by simp)
  have e1 : c0.take ((q + 1) * z) = c0 := List.take_of_length_le (by rw [Yt, Nat.add_mul]; omega)
  rw [List.take_succ_cons, List.flatten_cons, List.flatten_cons, IB z xs q (fun cs Q3 => h cs (by simp [Q3])), List.take_append, e1, Yt, Nat.add_mul, Nat.one_mul, Nat.add_sub_cancel]
theorem Xg {zs : List VV} {mz : Array Value} (h : P2 ρ zs mz.toList) (n : Nat) : P2 ρ (List.replicate n zs).flatten (Builtin.zeroCells mz n).toList := by
 have hl : zs.length = mz.size := by simpa using h.1
 refine ⟨by simp [List.length_flatten, hl, Builtin.zeroCells], fun i x mx hx UE => ?_⟩
 have Ri : i < n * mz.size := by
  have := (List.getElem?_eq_some_iff.1 UE).1
  simpa [Builtin.zeroCells] using this
 have Qr : 0 < mz.size := by
  rcases Nat.eq_zero_or_pos mz.size with e | e
  ·rw [e] at Ri; simp at Ri
  ·exact e
 have e1 : ∀ (n i : Nat), i < n * mz.size -> (List.flatten (List.replicate n zs))[i]? = zs[i % mz.size]? := by
  intro n
  induction n with
  | zero => intro i hi; simp at hi
  | succ n ih =>
   intro i hi
   rw [List.replicate_succ, List.flatten_cons]
   by_cases R3 : i < mz.size
   ·rw [List.getElem?_append_left (by omega), Nat.mod_eq_of_lt R3]
   ·rw [List.getElem?_append_right (by omega), hl, ih _ (by rw [Nat.add_mul, Nat.one_mul] at hi; omega), <- Nat.mod_eq_sub_mod (by omega)]
 rw [e1 n i Ri] at hx
 simp [Builtin.zeroCells, Ri] at UE
 have Va : i % mz.size < mz.size := Nat.mod_lt _ Qr
 rw [getElem!_pos mz _ Va] at UE
 refine h.2 _ x mx hx ?_
 rw [<- UE]
 simp [Array.getElem?_eq_getElem Va]
theorem ZB {o : Oper} {e : Env} {h h' : A0} {call : O5} {v : VV} (hk : Y1 P o = .EV) (hc : Jf o.op = false) (K0 : CG P call o e h = some (v, h')) (a : Act)
  (ho : ∀ x ∈ o.op.operands, Y0 ρ (ev e x) (a.eval x)) (hR : Rel ρ h.get w) (hw : WF h.get h.next) :
  ∃ mv ρ' w', kN P a w o mv w' /\ Step ρ h.get h.next w ρ' h'.get h'.next w' /\ Y0 ρ' v mv := by
 have bh : ∀ {s : Sem Unit} {w' : World}, s.run P w = .ok () w' -> ((do s; pure .skip : Sem Next)).run P w = .ok .skip w' := by
  intro s w' h1
  simp only [Sem.run_bind, h1, Result.andThen_ok, Sem.run_pure]
 have KU : ∀ {s : Sem Value} {mv : Value} {w' : World}, s.run P w = .ok mv w' -> ((do pure (.value (<- s)) : Sem Next)).run P w = .ok (.value mv) w' := by
  intro s mv w' h1
  simp only [Sem.run_bind, h1, Result.andThen_ok, Sem.run_pure]
 obtain ⟨dst, op, type, pos, after, guard⟩ := o
 unfold kN
 cases op <;> simp only [CG, Y1] at K0 hk <;> (try (cases hk; done)) <;> (try (cases K0; done)) <;> simp only [Op.operands] at ho <;> simp only [execOp]
 case store t x y =>
  simp only [Option.map_eq_some_iff, Prod.mk.injEq] at K0
  obtain ⟨h1, J6, rfl, rfl⟩ := K0
  obtain ⟨w', j4, E3⟩ := SC (P := P) J6 (ho x (by simp)) (ho y (by simp)) hR hw
  exact ⟨undef, ρ, w', .inr ⟨bh j4, rfl⟩, E3, .undef _⟩
 case mapUpdate t m k x =>
  simp only [Option.map_eq_some_iff, Prod.mk.injEq] at K0
  obtain ⟨h1, J6, rfl, rfl⟩ := K0
  obtain ⟨w', j4, E3⟩ := Ej (P := P) J6 (ho m (by simp)) (ho k (by simp)) (ho x (by simp)) hR hw
  exact ⟨undef, ρ, w', .inr ⟨bh j4, rfl⟩, E3, .undef _⟩
 case insert t m k x =>
  simp only [Option.map_eq_some_iff, Prod.mk.injEq] at K0
  obtain ⟨h1, J6, rfl, rfl⟩ := K0
  obtain ⟨w', j4, E3⟩ := Ej (P := P) J6 (ho m (by simp)) (ho k (by simp)) (ho x (by simp)) hR hw
  exact ⟨undef, ρ, w', .inr ⟨bh j4, rfl⟩, E3, .undef _⟩
 case convert src dst x =>
  split at hk <;> cases hk
 case call c =>
  obtain ⟨callee, args, argTypes⟩ := c
  cases callee with
  | value f => cases hc
  | invoke r m => cases hc
  | builtin b =>
   have V6 : P2 ρ (I4 e args) (args.map a.eval).toList := by
    refine ⟨by simp [I4], fun i u mu hu ON => ?_⟩
    simp only [I4, List.getElem?_map, Option.map_eq_some_iff, Array.toList_map] at hu ON
    obtain ⟨x, hx, rfl⟩ := hu
    obtain ⟨y, hy, rfl⟩ := ON
    rw [hx] at hy; simp only [U0] at hy; subst hy
    exact ho x (by simp [Call.operands]; simpa using List.mem_of_getElem? hx)
   have hex : (do let d <- resolve a.eval { callee := .builtin b, args, argTypes } type; invoke d.target d.args : Sem Next) =
     builtin b argTypes type (args.map fun | .const _ => true | _ => false) (args.map a.eval) := rfl
   rw [hex]
   cases b <;> (try (cases K0; done)) <;> (try (cases hk; done)) <;> (try (simp only at hk; split at hk <;> cases hk; done)) <;> simp only [F8] at K0
   case append =>
    rw [show builtin .append argTypes type (args.map fun | .const _ => true | _ => false) (args.map a.eval) = (do pure (.value (<- Builtin.append_ argTypes type (args.map a.eval))) : Sem Next) from rfl]
    generalize I4 e args = L at K0 V6
    rcases L with _ | ⟨s, _ | ⟨x, _ | ⟨z, L⟩⟩⟩ <;> dsimp only at K0 <;> (try (cases K0; done))
    obtain ⟨ms, rest, Dj, hs, Di⟩ := V6.of_cons
    obtain ⟨mx, WN, rfl, hx, Bf⟩ := Di.of_cons
    have NR := Bf.of_nil
    subst NR
    have JT : args.map a.eval = #[ms, mx] := by apply Array.ext'; simpa using Dj
    rw [JT]
    split at K0
    ·rename_i t u OL lh
     have cb : ∀ (ty : TypeId) (vs : Array Value), Builtin.append_ argTypes ty vs = Builtin.append_ #[t, u] ty vs := by
      intro ty vs
      simp only [Builtin.append_, OL, lh, List.getElem?_toArray, List.getElem?_cons_zero, List.getElem?_cons_succ]
     rw [cb]
     split at K0
     ·rename_i el e' hu ht
      simp only [Option.bind_eq_some_iff] at K0
      obtain ⟨xs, Dr, K0⟩ := K0
      obtain ⟨mv, ρ', w', j4, E3, U3⟩ := Ip (ty := type) K0 Dr hu ht (.inl ⟨_, rfl⟩) hs hx hR hw
      exact ⟨mv, ρ', w', .inl (KU j4), E3, U3⟩
     ·rename_i el hu ht
      simp only [Option.bind_eq_some_iff] at K0
      obtain ⟨xs, Dr, K0⟩ := K0
      obtain ⟨mv, ρ', w', j4, E3, U3⟩ := Ip (ty := type) K0 Dr hu ht (.inr rfl) hs hx hR hw
      exact ⟨mv, ρ', w', .inl (KU j4), E3, U3⟩
     ·cases K0
    ·cases K0
   case copy =>
    rw [show builtin .copy argTypes type (args.map fun | .const _ => true | _ => false) (args.map a.eval) = (do pure (.value (<- Builtin.copy_ argTypes type (args.map a.eval))) : Sem Next) from rfl]
    generalize I4 e args = L at K0 V6
    rcases L with _ | ⟨d, _ | ⟨x, _ | ⟨z, L⟩⟩⟩ <;> dsimp only at K0 <;> (try (cases K0; done))
    obtain ⟨md, rest, Dj, hd, Di⟩ := V6.of_cons
    obtain ⟨mx, WN, rfl, hx, Bf⟩ := Di.of_cons
    have NR := Bf.of_nil
    subst NR
    have JT : args.map a.eval = #[md, mx] := by apply Array.ext'; simpa using Dj
    rw [JT]
    split at K0
    ·rename_i el ht
     obtain ⟨t, OL, OY⟩ := Option.bind_eq_some_iff.1 ht
     split at K0
     ·cases K0
     rename_i ua
     obtain ⟨inf, Ia⟩ := L6 ua
     split at K0
     ·rename_i xs b i n c z Dr
      split at K0
      ·rename_i hz
       subst hz
       simp only [Option.map_eq_some_iff, Prod.mk.injEq] at K0
       obtain ⟨h1, tq, rfl, rfl⟩ := K0
       obtain ⟨hlen, X7, ms, U3, NX, Qx⟩ := DV (P := P) Dr hx hR (fun _ _ _ h => h)
       have cO : Nat.min xs.length n <= xs.length := Nat.min_le_left _ _
       have xH : xs.take n = xs.take (Nat.min xs.length n) := by
        by_cases hle : xs.length <= n
        ·rw [List.take_of_length_le hle, show Nat.min xs.length n = xs.length from Nat.min_eq_left hle, List.take_length]
        ·rw [show Nat.min xs.length n = n from Nat.min_eq_right (by omega)]
       have Qw : (xs.take (Nat.min xs.length n)).flatten = xs.flatten.take (Nat.min xs.length n * P.cellsOf el) := IB _ xs _ (fun cs Q3 => (X7 cs Q3).1)
       obtain ⟨ad, o5, w', OM, J6, E3⟩ := Eh (P := P) (xs := xs.take n) tq hd (fun cs Q3 => X7 cs (List.mem_of_mem_take Q3)) (ms.take (Nat.min xs.length n * P.cellsOf el))
        (by rw [xH, Qw]; exact U3.take _) (by simp; omega) hR hw
       subst OM
       refine ⟨_, ρ, w', .inl (KU ?_), E3, .int _ _⟩
       simp only [Builtin.copy_, OL, List.getElem?_toArray, List.getElem?_cons_zero, List.getElem?_cons_succ, Sem.run_bind, run_underlying OY, Result.andThen_ok, hlen, run_sizeOf w Ia, Qx _ cO, J6, Sem.run_pure, goInt]
      ·cases K0
     ·rename_i xs Dr
      simp only [U0, Prod.mk.injEq] at K0
      obtain ⟨rfl, rfl⟩ := K0
      obtain ⟨hlen, _, ms, _, _, Qx⟩ := DV (P := P) Dr hx hR (fun _ _ _ h => h)
      cases hd
      have h0 := Qx 0 (Nat.zero_le _)
      refine ⟨.int .i64 0, ρ, w, .inl (KU ?_), Step.refl hR hw, .int _ _⟩
      simp only [Builtin.copy_, OL, List.getElem?_toArray, List.getElem?_cons_zero, List.getElem?_cons_succ, Sem.run_bind, run_underlying OY, Result.andThen_ok, hlen, run_sizeOf w Ia, Nat.min_zero, h0, Sem.run_pure, goInt]
      rfl
     ·cases K0
    ·cases K0
   case clear =>
    rw [show builtin .clear argTypes type (args.map fun | .const _ => true | _ => false) (args.map a.eval) = (do pure (.value (<- Builtin.clear_ argTypes type (args.map a.eval))) : Sem Next) from rfl]
    generalize I4 e args = L at K0 V6
    rcases L with _ | ⟨x, _ | ⟨z, L⟩⟩ <;> dsimp only at K0 <;> (try (cases K0; done))
    obtain ⟨mx, rest, Dj, hx, Bf⟩ := V6.of_cons
    have NR := Bf.of_nil
    subst NR
    have JT : args.map a.eval = #[mx] := by apply Array.ext'; simpa using Dj
    rw [JT]
    split at K0
    ·rename_i el ht
     obtain ⟨t, OL, OY⟩ := Option.bind_eq_some_iff.1 ht
     simp only [U0, Prod.mk.injEq] at K0
     obtain ⟨rfl, rfl⟩ := K0
     cases hx
     refine ⟨.tuple #[], ρ, w, .inl (KU ?_), Step.refl hR hw, Y0.K8 (P2.nil ρ)⟩
     simp [Builtin.clear_, OL, run_underlying OY]
    ·rename_i el b i n c z ht
     obtain ⟨t, OL, OY⟩ := Option.bind_eq_some_iff.1 ht
     split at K0
     ·simp only [U0, Prod.mk.injEq] at K0
      obtain ⟨rfl, rfl⟩ := K0
      cases hx
      refine ⟨.tuple #[], ρ, w, .inl (KU ?_), Step.refl hR hw, Y0.K8 (P2.nil ρ)⟩
      simp [Builtin.clear_, OL, run_underlying OY]
     ·rename_i fl
      split at K0
      ·rename_i zv hz
       split at K0
       ·rename_i oQ
        subst oQ
        simp only [Option.map_eq_some_iff, Prod.mk.injEq] at K0
        obtain ⟨h1, tq, rfl, rfl⟩ := K0
        obtain ⟨inf, mz, hi, DN, Re, C7, hlen⟩ := V7 (ρ := ρ) hz
        have D2 := Re.cells (BT C7)
        have qT := Xg D2 n
        obtain ⟨ad, o5, w', OM, J6, E3⟩ := Eh (P := P) (xs := List.replicate n (C1 zv)) tq hx (fun cs Q3 => by
         have := (List.mem_replicate.1 Q3).2
         subst this
         exact ⟨hlen, C7⟩) _ qT (by simp) hR hw
        subst OM
        refine ⟨.tuple #[], ρ, w', .inl (KU ?_), E3, Y0.K8 (P2.nil ρ)⟩
        cases n with
        | zero => exact absurd rfl fl
        | succ n => simp [Builtin.clear_, OL, run_underlying OY, BM hi DN, J6]
       ·cases K0
      ·cases K0
    ·cases K0
   case delete =>
    rw [show builtin .delete argTypes type (args.map fun | .const _ => true | _ => false) (args.map a.eval) = (do pure (.value (<- Builtin.delete_ argTypes type (args.map a.eval))) : Sem Next) from rfl]
    generalize I4 e args = L at K0 V6
    rcases L with _ | ⟨m, _ | ⟨k, _ | ⟨z, L⟩⟩⟩ <;> dsimp only at K0 <;> (try (cases K0; done))
    obtain ⟨mm, rest, Dj, hm, Di⟩ := V6.of_cons
    obtain ⟨mk, WN, rfl, U9, Bf⟩ := Di.of_cons
    have NR := Bf.of_nil
    subst NR
    have JT : args.map a.eval = #[mm, mk] := by apply Array.ext'; simpa using Dj
    rw [JT]
    split at K0
    ·rename_i kt et b ht
     obtain ⟨t, OL, OY⟩ := Option.bind_eq_some_iff.1 ht
     split at K0
     ·rename_i D7
      split at K0
      ·rename_i es hg
       split at K0
       ·rename_i r hf
        simp only [U0, Prod.mk.injEq] at K0
        obtain ⟨rfl, rfl⟩ := K0
        obtain ⟨w', j4, E3⟩ := RK (P := P) (ty := type) OY rfl D7 hg hf ⟨rfl, rfl⟩ hm U9 hR hw
        refine ⟨.tuple #[], ρ, w', .inl (KU ?_), E3, Y0.K8 (P2.nil ρ)⟩
        have cb : ∀ (ty : TypeId) (vs : Array Value), Builtin.delete_ argTypes ty vs = Builtin.delete_ #[t] ty vs := by
         intro ty vs
         simp only [Builtin.delete_, OL, List.getElem?_toArray, List.getElem?_cons_zero]
        rw [cb]; exact j4
       ·cases K0
      ·cases K0
     ·cases K0
    ·cases K0
end
end Go.Proofs.Ythlbahcggmbfaaa.V
namespace Go.Proofs.Ythlbahcggmbfaaa.V
def ay : World -> Prop := fun _ => True
def Gd (ρ : Ren) (g : Nat -> Option F2) (w : World) : Prop :=
 ∃ W0 : World, ay W0 /\ W0.heap.size <= w.heap.size /\ (∀ B, B < W0.heap.size -> w.heap[B]? = W0.heap[B]?) /\
  ∀ b l, ρ b = some l -> W0.heap.size <= l.mb \/ ∃ k, g b = some (.cells k) /\ k.ro = true
theorem Step.gd {ρ ρ' : Ren} {g g' : Nat -> Option F2} {n n' : Nat} {w w' : World} (s : Step ρ g n w ρ' g' n' w') (h : Gd ρ g w) : Gd ρ' g' w' := by
 obtain ⟨W0, hI, h1, h2, h3⟩ := h
 refine ⟨W0, hI, Nat.le_trans h1 s.size, fun B hB => ?_, fun b l hb => ?_⟩
 ·refine (s.old B (Nat.lt_of_lt_of_le hB h1) fun b l hb hl => ?_).trans (h2 B hB)
  rcases h3 b l hb with h | h
  ·omega
  ·exact h
 ·rcases s.new b l hb with h | ⟨_, h | ⟨b0, l0, k, iq, PN, Rj, Gi⟩⟩
  ·rcases h3 b l h with h | ⟨k, hk, hr⟩
   ·exact .inl h
   ·obtain ⟨k', Ze, e⟩ := s.ro b k hk
    exact .inr ⟨k', Ze, e.trans hr⟩
  ·exact .inl (Nat.le_trans h1 h)
  ·rcases h3 b0 l0 iq with h | ⟨k1, El, UC⟩
   ·exact .inl (PN ▸ h)
   ·rw [Rj] at El
    simp only [U0, F2.cells.injEq] at El
    subst El
    rw [Gi] at UC; cases UC
open Go.RowKit
section
variable {P : Program}
def OI (P : Program) (f : FuncId) (args : List VV) (h : A0) (v : VV) (h' : A0) : Prop :=
 ∀ (ρ : Ren) (w : World) (Cv : List Value), Rel ρ h.get w -> WF h.get h.next -> P2 ρ args Cv -> Gd ρ h.get w ->
  Calls P f Cv.toArray w fun e w' => ∃ mv ρ', e = .returned mv /\ Step ρ h.get h.next w ρ' h'.get h'.next w' /\ Y0 ρ' v mv
def Hm (P : Program) (call : O5) : Prop := ∀ f args h v h', call f args h = some (v, h') -> OI P f args h v h'
theorem KN {f : FuncId} (h : plainFunc P f = true) (args : Array Value) (w : World) : (callFunc f args).run P w = .ok (.enter f args) w := by
 unfold plainFunc at h
 split at h
 ·rename_i fn hf
  simp only [Bool.and_eq_true, Bool.not_eq_true'] at h
  obtain ⟨hb, hn⟩ := h
  have H3 : fn.body.isNone = false := by cases hfb : fn.body <;> simp_all
  simp only [callFunc, Sem.run_bind, run_program, Result.andThen_ok, hf, hn, H3, Bool.false_eq_true, if_false, Sem.run_pure]
 ·cases h
theorem VN {t : TypeId} {name : String} {f : FuncId} (h : Cp P t name = some f) (v : Value) (w : World) : (method (P.types.size + Made.depth) t v name).run P w = .ok (f, v) w := by
 obtain ⟨n, hn⟩ : ∃ n, P.types.size + Made.depth = n + 1 := by
  have hd : 0 < Made.depth := by decide
  exact ⟨P.types.size + Made.depth - 1, by omega⟩
 rw [hn]
 unfold Cp at h
 split at h
 ·rename_i m hm
  obtain ⟨i, hi, NY⟩ := Option.bind_eq_some_iff.1 hm
  split at h
  ·rename_i g p qo rH
   have hp : m.path = #[] := by simpa using qo
   unfold method
   simp only [Sem.run_bind, run_typeInfo w hi, Result.andThen_ok, NY, hp, rH]
   split at h
   ·rename_i hu
    simp only [U0] at h; subst h
    simp [follow, receiverAt, run_underlying hu, Place.get]
   ·cases h
   ·rename_i d TF hu
    simp only [U0] at h; subst h
    cases d <;> first | (exact absurd rfl (TF _)) | simp [follow, receiverAt, run_underlying hu, Place.get]
   ·cases h
  ·cases h
 ·cases h
theorem Vq {ρ : Ren} {c : Call} {e : Env} {a : Act} {h h' : A0} {call : O5} {v : VV} {type : TypeId} (hb : ∀ b, c.callee ≠ .builtin b) (K0 : F8 P call c e h = some (v, h'))
  (ho : ∀ x ∈ c.operands, Y0 ρ (ev e x) (a.eval x)) (w : World) :
  ∃ f args Cv, call f args h = some (v, h') /\ P2 ρ args Cv /\ (do let d <- resolve a.eval c type; invoke d.target d.args : Sem Next).run P w = .ok (.enter f Cv.toArray) w := by
 obtain ⟨callee, args, argTypes⟩ := c
 have V6 : ∀ (U8 : ∀ x ∈ args, x ∈ (Call.mk callee args argTypes).operands), P2 ρ (I4 e args) (args.map a.eval).toList := by
  intro U8
  refine ⟨by simp [I4], fun i u mu hu ON => ?_⟩
  simp only [I4, List.getElem?_map, Option.map_eq_some_iff, Array.toList_map] at hu ON
  obtain ⟨x, hx, rfl⟩ := hu
  obtain ⟨y, hy, rfl⟩ := ON
  rw [hx] at hy; simp only [U0] at hy; subst hy
  exact ho x (U8 x (by simpa using List.mem_of_getElem? hx))
 cases callee with
 | builtin b => exact absurd rfl (hb b)
 | value f =>
  have V6 := V6 (fun x hx => by simp [Call.operands, hx])
  have hf := ho f (by simp [Call.operands])
  simp only [F8] at K0
  split at K0
  ·rename_i g first Il e1
   rw [e1] at hf
   split at K0
   ·rename_i KX
    obtain ⟨x', y', e2, h1, h2⟩ := hf.ck
    refine ⟨g, _, x'.toList ++ (args.map a.eval).toList ++ y'.toList, K0, (h1.append V6).append h2, ?_⟩
    simp only [resolve, e2, Deferred.ofValue, Sem.run_bind, Sem.run_pure, Result.andThen_ok, invoke]
    rw [KN KX]
    congr 2
    apply Array.ext'
    simp
   ·cases K0
  ·cases K0
 | invoke r name =>
  have V6 := V6 (fun x hx => by simp [Call.operands, hx])
  have hr := ho r (by simp [Call.operands])
  simp only [F8] at K0
  split at K0
  ·rename_i t u e1
   rw [e1] at hr
   generalize cN : a.eval r = mr at hr
   cases hr with
   | iface _ _ mu ON =>
   split at K0
   ·rename_i g hg
    split at K0
    ·rename_i KX
     refine ⟨g, _, mu :: (args.map a.eval).toList, K0, P2.cons ON V6, ?_⟩
     simp only [resolve, cN, Sem.run_bind, Sem.run_pure, Result.andThen_ok, invoke]
     have e2 : (#[Value.iface t mu] ++ args.map a.eval)[0]? = some (.iface t mu) := by rw [Array.getElem?_append_left (by simp)]; rfl
     have e3 : #[mu] ++ (#[Value.iface t mu] ++ args.map a.eval).extract 1 (#[Value.iface t mu] ++ args.map a.eval).size = (mu :: (args.map a.eval).toList).toArray := by
      apply Array.ext'
      simp only [Array.toList_append, toList_extract, Array.size_append, List.cons_append, List.nil_append, List.drop_one, List.tail_cons]
      rw [List.take_of_length_le (by simp)]
     simp only [e2, callMethod, Sem.run_bind, run_program, Result.andThen_ok, VN hg, KN KX, e3]
    ·cases K0
   ·cases K0
  ·cases K0
theorem jY {ρ : Ren} {w : World} {o : Oper} {e : Env} {a : Act} {h h' : A0} {call : O5} {v : VV} (U6 : Hm P call) (K0 : CG P call o e h = some (v, h'))
  (ho : ∀ x ∈ o.op.operands, Y0 ρ (ev e x) (a.eval x)) (hR : Rel ρ h.get w) (hw : WF h.get h.next) (hG : Gd ρ h.get w) (K : Act -> World -> Prop) (Q : Exit -> Act -> World -> Prop)
  (hK : ∀ mv ρ' w', Step ρ h.get h.next w ρ' h'.get h'.next w' -> Y0 ρ' v mv -> K (a.put o.dst mv) w') : o.wp P a w K Q := by
 have quiet : Y1 P o = .pure \/ Y1 P o = .read -> o.wp P a w K Q := by
  intro hk
  obtain ⟨rfl, mv, j4, U3⟩ := KK w hk K0 a ho hR (fun _ _ _ _ h => h)
  unfold Oper.wp
  rw [j4, Oper.upon_value]
  exact hK mv ρ w (Step.refl hR hw) U3
 cases hk : Y1 P o with
 | pure => exact quiet (.inl hk)
 | read => exact quiet (.inr hk)
 | alloc =>
  obtain ⟨obj, m, w', mv, l, rfl, j4, hN, hl, B2, CW, U3⟩ := Kp w hk K0 a ho
  unfold Oper.wp
  rw [j4, Oper.upon_value]
  exact hK mv _ w' (SF hR hw obj m hN l hl B2 (fun k hk => (CW k hk).1)) (U3 _ (by simp [Ren.add]))
 | EV =>
  cases hc : Jf o.op with
  | false =>
   obtain ⟨mv, ρ', w', j4, E3, U3⟩ := ZB hk hc K0 a ho hR hw
   unfold Oper.wp
   rcases j4 with j4 | ⟨j4, rfl⟩
   ·rw [j4, Oper.upon_value]; exact hK mv ρ' w' E3 U3
   ·rw [j4, Oper.upon_skip]; exact hK _ ρ' w' E3 U3
  | true =>
   obtain ⟨dst, op, type, pos, after, guard⟩ := o
   cases op <;> simp only [Jf] at hc <;> (try (cases hc; done))
   rename_i c
   simp only [CG] at K0
   obtain ⟨f, args, Cv, hf, U3, j4⟩ := Vq (P := P) (type := type) (by
    intro b hb
    obtain ⟨callee, cargs, cts⟩ := c
    simp only at hb
    subst hb
    simp at hc) K0 ho w
   have hs := U6 f args h v h' hf ρ w Cv hR hw U3 hG
   unfold Oper.wp
   simp only [execOp]
   rw [j4, Oper.upon_enter]
   refine Calls.mono hs ?_
   rintro en w' ⟨mv, ρ', rfl, E3, hv⟩
   exact hK mv ρ' w' E3 hv
theorem FJ (ρ : Ren) : Y0 ρ Bk undef := Y0.K8 (P2.nil ρ)
theorem Lm {ρ : Ren} {ops : Array Oper} {o : Oper} {e : Env} {tmps : Array Value} {b : Bool} (h : l5 ops o e = some b)
  (hE : ∀ j want t, o.guard = some (j, want) -> (ops[j]?).bind (·.dst) = some t -> Y0 ρ (e.get t) (tmps.getD t undef)) : Region.wanted o (yielded ops tmps) = b := by
 unfold l5 at h
 unfold Region.wanted
 split at h
 ·rename_i hg; simp only [U0] at h; rw [hg]; exact h
 ·rename_i j want hg
  rw [hg]
  simp only
  unfold Hp at h
  unfold yielded
  cases hd : (ops[j]?).bind (·.dst) with
  | none => rw [hd] at h; cases h
  | some t =>
   rw [hd] at h
   have ht := hE j want t hg hd
   simp only at h
   cases hv : e.get t <;> rw [hv] at h <;> (try simp only at h) <;> (try (cases h; done))
   case tuple xs =>
    cases xs with
    | cons x xs => simp at h
    | nil =>
     simp only [U0] at h
     rw [hv] at ht
     obtain ⟨x', sI, hl⟩ := ht.Oz
     have hn : ∀ q, tmps[t]? ≠ some (.bool q) := fun q oV => by
      have : tmps.getD t undef = .bool q := by simp [Array.getD_eq_getD_getElem?, oV]
      rw [this] at sI; cases sI
     simp only [Option.bind_some]
     rw [<- h]
     cases oV : tmps[t]? with
     | none => rfl
     | some x => cases x <;> first | rfl | exact absurd oV (hn _)
   rename_i q
   simp only [U0] at h
   rw [hv] at ht
   have : tmps[t]? = some (.bool q) := by
    cases oV : tmps[t]? with
    | none =>
     have : tmps.getD t undef = undef := by simp [Array.getD_eq_getD_getElem?, oV]
     rw [this] at ht
     unfold undef at ht
     cases ht
    | some x =>
     have : tmps.getD t undef = x := by simp [Array.getD_eq_getD_getElem?, oV]
     rw [this] at ht
     cases ht; rfl
   simp only [Option.bind_some, this]
   rw [<- h]
   cases q <;> cases want <;> rfl
structure Zj (ρ : Ren) (N : Nat) (e : Env) (a : Act) : Prop where
 rel : RW ρ e a.tmps
 size : a.tmps.size = N
 defers : a.defers = []
theorem Zj.put {ρ ρ' : Ren} {N : Nat} {e : Env} {a : Act} (h : Zj ρ N e a) (hle : Ren.le ρ ρ') {d : Option Tmp} (hd : ∀ t, d = some t -> t < N) {v : VV} {mv : Value} (hv : Y0 ρ' v mv) :
  Zj ρ' N (e.put d v) (a.put d mv) := by
 refine ⟨(h.rel.mono hle).put d (fun t ht => by rw [h.size]; exact hd t ht) hv, ?_, ?_⟩
 ·cases d <;> simp [Act.put, h.size]
 ·cases d <;> simp [Act.put, h.defers]
theorem Pv {call : O5} (U6 : Hm P call) {ops : Array Oper} {N : Nat} (Q : Exit -> Act -> World -> Prop) : ∀ (l : List Oper) (e e' : Env) (h h' : A0) (ρ : Ren) (a : Act) (w : World),
  Eu P call ops l e h = some (e', h') -> (∀ o ∈ l, ∀ d, o.dst = some d -> d < N) -> Zj ρ N e a -> Rel ρ h.get w -> WF h.get h.next -> Gd ρ h.get w ->
  (∀ ρ' a' w', Step ρ h.get h.next w ρ' h'.get h'.next w' -> Zj ρ' N e' a' -> Q .normal a' w') -> wpList P ops Q l a w
 | [], e, e', h, h', ρ, a, w, K0, _, hF, hR, hw, hG, hQ => by
  simp only [Eu, U0, Prod.mk.injEq] at K0
  obtain ⟨rfl, rfl⟩ := K0
  exact hQ ρ a w (Step.refl hR hw) hF
 | o :: l, e, e', h, h', ρ, a, w, K0, hd, hF, hR, hw, hG, hQ => by
  simp only [Eu] at K0
  cases jh : l5 ops o e with
  | none => rw [jh] at K0; cases K0
  | some b =>
   rw [jh] at K0
   have La := Lm (ρ := ρ) (tmps := a.tmps) jh (fun j want t _ _ => hF.rel.at_ t)
   cases b with
   | false =>
    simp only at K0
    unfold wpList
    rw [La]
    simp only [Bool.false_eq_true, if_false]
    exact Pv U6 Q l _ e' h h' ρ _ w K0 (fun o ho => hd o (by simp [ho])) (hF.put (Ren.le.refl ρ) (hd o (by simp)) (FJ ρ)) hR hw hG hQ
   | true =>
    simp only at K0
    cases hv : CG P call o e h with
    | none => rw [hv] at K0; cases K0
    | some p =>
     obtain ⟨v, h1⟩ := p
     rw [hv] at K0
     simp only at K0
     unfold wpList
     rw [La]
     simp only [if_true]
     left
     refine jY U6 hv (fun x _ => cy hF.rel x) hR hw hG _ _ fun mv ρ1 w1 E3 U3 => ?_
     exact Pv U6 Q l _ e' h1 h' ρ1 _ w1 K0 (fun o ho => hd o (by simp [ho])) (hF.put E3.le (hd o (by simp)) U3) E3.rel E3.wf (E3.gd hG)
      (fun ρ' a' w' hs hf => hQ ρ' a' w' (E3.trans hs) hf)
end
end Go.Proofs.Ythlbahcggmbfaaa.V
namespace Go.Proofs.Ythlbahcggmbfaaa.V
open Go.RowKit
section
variable {P : Program}
structure Trace (P : Program) (call : O5) (ops : Array Oper) (Q7 : Array Nat) (i n : Nat) (env : Nat -> Env) (heap : Nat -> A0) (val : Nat -> VV) (wn : Nat -> Bool) : Prop where
 step : ∀ k o, i <= k -> k < n -> ops[k]? = some o -> l5 ops o (env k) = some (wn k) /\ env (k + 1) = (env k).put o.dst (val k) /\
  (wn k = true -> CG P call o (env k) (heap k) = some (val k, heap (k + 1))) /\ (wn k = false -> val k = Bk /\ heap (k + 1) = heap k)
 early : ∀ j k oj ok, i <= j -> j < k -> k < n -> ops[j]? = some oj -> ops[k]? = some ok -> wn j = true -> wn k = true -> Y1 P ok = .read -> Y1 P oj = .EV ->
  (Q7.getD k 0).testBit j = true \/ R6 P ok (env k) (val k) (heap j) = true
 late : ∀ j k oj ok, i <= j -> j < k -> k < n -> ops[j]? = some oj -> ops[k]? = some ok -> wn j = true -> wn k = true -> Y1 P ok = .EV -> Y1 P oj = .read ->
  (Q7.getD k 0).testBit j = true \/ R6 P oj (env j) (val j) (heap (k + 1)) = true
theorem Jr {call : O5} {ops : Array Oper} {Q7 : Array Nat} : ∀ (l : List Oper) (i : Nat) (e e' : Env) (h h' : A0) (rs : List (Nat × Oper × Env × VV)) (es : List (Nat × A0)),
  BI P call ops Q7 i l e h rs es = some (e', h') -> (∀ k, l[k]? = ops[i + k]?) ->
  ∃ env heap val wn, env i = e /\ heap i = h /\ env (i + l.length) = e' /\ heap (i + l.length) = h' /\ Trace P call ops Q7 i (i + l.length) env heap val wn /\
   (∀ k o, i <= k -> k < i + l.length -> ops[k]? = some o -> wn k = true -> Y1 P o = .read -> ∀ j hb, (j, hb) ∈ es -> (Q7.getD k 0).testBit j = true \/ R6 P o (env k) (val k) hb = true) /\
   (∀ k o, i <= k -> k < i + l.length -> ops[k]? = some o -> wn k = true -> Y1 P o = .EV -> ∀ j p d u, (j, p, d, u) ∈ rs -> (Q7.getD k 0).testBit j = true \/ R6 P p d u (heap (k + 1)) = true)
 | [], i, e, e', h, h', rs, es, K0, _ => by
  simp only [BI, U0, Prod.mk.injEq] at K0
  obtain ⟨rfl, rfl⟩ := K0
  exact ⟨fun _ => e, fun _ => h, fun _ => .undef, fun _ => false, rfl, rfl, rfl, rfl, ⟨fun k o h1 h2 => by simp at h2; omega, fun j k oj ok h1 h2 h3 => by simp at h3; omega, fun j k oj ok h1 h2 h3 => by simp at h3; omega⟩,
   fun k o h1 h2 => by simp at h2; omega, fun k o h1 h2 => by simp at h2; omega⟩
 | o :: l, i, e, e', h, h', rs, es, K0, hl => by
  have hi : ops[i]? = some o := by simpa using (hl 0).symm
  have cR : ∀ k, l[k]? = ops[i + 1 + k]? := fun k => by have := hl (k + 1); rwa [List.getElem?_cons_succ, show i + (k + 1) = i + 1 + k by omega] at this
  have hlen : i + (o :: l).length = i + 1 + l.length := by simp; omega
  rw [hlen]
  
  have build : ∀ (b : Bool) (v : VV) (h1 : A0) (QL : List (Nat × Oper × Env × VV)) (Aw : List (Nat × A0)),
    BI P call ops Q7 (i + 1) l (e.put o.dst v) h1 QL Aw = some (e', h') -> l5 ops o e = some b -> (b = true -> CG P call o e h = some (v, h1)) -> (b = false -> v = Bk /\ h1 = h) ->
    (b = true -> Y1 P o = .read -> (i, o, e, v) ∈ QL /\ ∀ j hb, (j, hb) ∈ es -> (Q7.getD i 0).testBit j = true \/ R6 P o e v hb = true) ->
    (b = true -> Y1 P o = .EV -> (i, h) ∈ Aw /\ ∀ j p d u, (j, p, d, u) ∈ rs -> (Q7.getD i 0).testBit j = true \/ R6 P p d u h1 = true) ->
    (∀ x, x ∈ rs -> x ∈ QL) -> (∀ x, x ∈ es -> x ∈ Aw) ->
    ∃ env heap val wn, env i = e /\ heap i = h /\ env (i + 1 + l.length) = e' /\ heap (i + 1 + l.length) = h' /\ Trace P call ops Q7 i (i + 1 + l.length) env heap val wn /\
     (∀ k o, i <= k -> k < i + 1 + l.length -> ops[k]? = some o -> wn k = true -> Y1 P o = .read -> ∀ j hb, (j, hb) ∈ es -> (Q7.getD k 0).testBit j = true \/ R6 P o (env k) (val k) hb = true) /\
     (∀ k o, i <= k -> k < i + 1 + l.length -> ops[k]? = some o -> wn k = true -> Y1 P o = .EV -> ∀ j p d u, (j, p, d, u) ∈ rs -> (Q7.getD k 0).testBit j = true \/ R6 P p d u (heap (k + 1)) = true) := by
   intro b v h1 QL Aw Di cA hv hu M3 wK xI P8
   obtain ⟨env, heap, val, wn, e0, e1, e2, e3, tr, l1, l2⟩ := Jr l (i + 1) _ e' h1 h' QL Aw Di cR
   have Y3 : ∀ k, i + 1 <= k -> ¬ k <= i := fun k hk => by omega
   have hne' : ∀ k, i + 1 <= k -> ¬ k = i := fun k hk => by omega
   have self : ops[i]? = some o := hi
   refine ⟨fun k => if k <= i then e else env k, fun k => if k <= i then h else heap k, fun k => if k = i then v else val k, fun k => if k = i then b else wn k, by simp, by simp,
    by simp only; rw [if_neg (by omega)]; exact e2, by simp only; rw [if_neg (by omega)]; exact e3, ⟨?_, ?_, ?_⟩, ?_, ?_⟩
   ·intro k ok El U9 I5
    by_cases Fe : k = i
    ·subst Fe
     rw [hi] at I5; simp only [U0] at I5; subst I5
     simp only [Nat.le_refl, if_true, if_neg (show ¬ k + 1 <= k by omega), e0, e1]
     exact ⟨cA, trivial, hv, hu⟩
    ·simp only [if_neg (show ¬ k <= i by omega), if_neg (show ¬ k + 1 <= i by omega), if_neg Fe]
     exact tr.step k ok (by omega) U9 I5
   ·intro j k oj ok PT h2 h3 iW I5 wj wk kk kj
    by_cases Rh : j = i
    ·subst Rh
     rw [hi] at iW; simp only [U0] at iW; subst iW
     simp only [if_true] at wj
     subst wj
     simp only [if_neg (show ¬ k = j by omega)] at wk
     simp only [if_neg (show ¬ k <= j by omega), if_neg (show ¬ k = j by omega), Nat.le_refl, if_true]
     exact l1 k ok (by omega) h3 I5 wk kk j h (wK rfl kj).1
    ·simp only [if_neg Rh] at wj
     simp only [if_neg (show ¬ k = i by omega)] at wk
     simp only [if_neg (show ¬ k <= i by omega), if_neg (show ¬ k = i by omega), if_neg (show ¬ j <= i by omega)]
     exact tr.early j k oj ok (by omega) h2 h3 iW I5 wj wk kk kj
   ·intro j k oj ok PT h2 h3 iW I5 wj wk kk kj
    by_cases Rh : j = i
    ·subst Rh
     rw [hi] at iW; simp only [U0] at iW; subst iW
     simp only [if_true] at wj
     subst wj
     simp only [if_neg (show ¬ k = j by omega)] at wk
     simp only [if_neg (show ¬ k + 1 <= j by omega), Nat.le_refl, if_true]
     exact l2 k ok (by omega) h3 I5 wk kk j o e v (M3 rfl kj).1
    ·simp only [if_neg Rh] at wj
     simp only [if_neg (show ¬ k = i by omega)] at wk
     simp only [if_neg (show ¬ k + 1 <= i by omega), if_neg (show ¬ j = i by omega), if_neg (show ¬ j <= i by omega)]
     exact tr.late j k oj ok (by omega) h2 h3 iW I5 wj wk kk kj
   ·intro k ok El U9 I5 wk kk j hb hj
    by_cases Fe : k = i
    ·subst Fe
     rw [hi] at I5; simp only [U0] at I5; subst I5
     simp only [if_true] at wk
     simp only [Nat.le_refl, if_true]
     exact (M3 wk kk).2 j hb hj
    ·simp only [if_neg Fe] at wk
     simp only [if_neg (show ¬ k <= i by omega), if_neg Fe]
     exact l1 k ok (by omega) U9 I5 wk kk j hb (P8 _ hj)
   ·intro k ok El U9 I5 wk kk j p d u hj
    by_cases Fe : k = i
    ·subst Fe
     rw [hi] at I5; simp only [U0] at I5; subst I5
     simp only [if_true] at wk
     simp only [if_neg (show ¬ k + 1 <= k by omega), e1]
     exact (wK wk kk).2 j p d u hj
    ·simp only [if_neg Fe] at wk
     simp only [if_neg (show ¬ k + 1 <= i by omega)]
     exact l2 k ok (by omega) U9 I5 wk kk j p d u (xI _ hj)
  simp only [BI] at K0
  split at K0
  ·cases K0
  ·rename_i qV
   exact build false Bk h rs es K0 qV (fun e => by cases e) (fun _ => ⟨rfl, rfl⟩) (fun e => by cases e) (fun e => by cases e) (fun _ h => h) (fun _ h => h)
  ·rename_i qV
   split at K0
   ·cases K0
   ·rename_i v h1 hv
    split at K0
    ·rename_i hk
     split at K0
     ·rename_i X7
      refine build true v h1 _ es K0 qV (fun _ => hv) (fun e => by cases e) (fun _ _ => ⟨by simp, fun j hb hj => ?_⟩) (fun _ U9 => by rw [hk] at U9; cases U9) (fun x hx => by simp [hx]) (fun _ h => h)
      have := List.all_eq_true.1 X7 (j, hb) hj
      simpa using this
     ·cases K0
    ·rename_i hk
     split at K0
     ·rename_i X7
      refine build true v h1 rs _ K0 qV (fun _ => hv) (fun e => by cases e) (fun _ U9 => by rw [hk] at U9; cases U9) (fun _ _ => ⟨by simp, fun j p d u hj => ?_⟩) (fun _ h => h) (fun x hx => by simp [hx])
      have := List.all_eq_true.1 X7 (j, p, d, u) hj
      simpa using this
     ·cases K0
    ·rename_i El U9
     exact build true v h1 rs es K0 qV (fun _ => hv) (fun e => by cases e) (fun _ hk => absurd hk El) (fun _ hk => absurd hk U9) (fun _ h => h) (fun _ h => h)
end
end Go.Proofs.Ythlbahcggmbfaaa.V
namespace Go.Proofs.Ythlbahcggmbfaaa.V
open Go.RowKit
mutual
theorem Cu : ∀ (a b : VV), VV.same a b = true -> a = b
 | .undef, b, h => by cases b <;> simp [VV.same] at h; rfl
 | .bool x, b, h => by cases b <;> simp [VV.same] at h; rw [h]
 | .int j x, b, h => by cases b <;> simp [VV.same] at h; rw [h.1, h.2]
 | .str s, b, h => by
  cases b <;> simp [VV.same] at h
  rename_i t
  obtain ⟨⟨x⟩⟩ := s
  obtain ⟨⟨y⟩⟩ := t
  simp at h; rw [h]
 | .I2, b, h => by cases b <;> simp [VV.same] at h; rfl
 | .ptr x y z, b, h => by cases b <;> simp [VV.same] at h; rw [h.1.1, h.1.2, h.2]
 | .nilslice, b, h => by cases b <;> simp [VV.same] at h; rfl
 | .slice x y z u v, b, h => by cases b <;> simp [VV.same] at h; obtain ⟨⟨⟨⟨h1, h2⟩, h3⟩, h4⟩, h5⟩ := h; rw [h1, h2, h3, h4, h5]
 | .A3, b, h => by cases b <;> simp [VV.same] at h; rfl
 | .map x, b, h => by cases b <;> simp [VV.same] at h; rw [h]
 | .D3, b, h => by cases b <;> simp [VV.same] at h; rfl
 | .func f x y, b, h => by
  cases b <;> (try (cases f <;> simp [VV.same] at h; done))
  rename_i g u v
  cases f <;> cases g <;> simp [VV.same] at h
  rw [h.1.1, J0 x u h.1.2, J0 y v h.2]
 | .I1, b, h => by cases b <;> simp [VV.same] at h; rfl
 | .iface t x, b, h => by
  cases b <;> simp [VV.same] at h
  rw [h.1, Cu x _ h.2]
 | .agg x, b, h => by
  cases b <;> simp [VV.same] at h
  rw [J0 x _ h]
 | .tuple x, b, h => by
  cases b <;> simp [VV.same] at h
  rw [J0 x _ h]
theorem J0 : ∀ (a b : List VV), VV.F0 a b = true -> a = b
 | [], b, h => by cases b <;> simp [VV.F0] at h; rfl
 | x :: a, b, h => by
  cases b with
  | nil => simp [VV.F0] at h
  | cons y b =>
   simp [VV.F0] at h
   rw [Cu x y h.1, J0 a b h.2]
end
section
variable {P : Program}
theorem KJ {o : Oper} {e : Env} {v : VV} {h : A0} (hr : R6 P o e v h = true) : ∃ h', CG P (fun _ _ _ => none) o e h = some (v, h') := by
 unfold R6 at hr
 split at hr
 ·rename_i u h' hv
  exact ⟨h', by rw [hv, Cu u v hr]⟩
 ·cases hr
theorem EA {call : O5} {o : Oper} {e : Env} {h h' : A0} {v : VV} (hk : Y1 P o = .pure \/ Y1 P o = .read) (K0 : CG P call o e h = some (v, h')) : h' = h := by
 have BO : ∀ {x : Option VV}, x.map (fun v => (v, h)) = some (v, h') -> h' = h := by
  intro x hx
  simp only [Option.map_eq_some_iff, Prod.mk.injEq] at hx
  obtain ⟨u, hu, rfl, rfl⟩ := hx
  rfl
 have SH : ∀ {x : VV}, some (x, h) = some (v, h') -> h' = h := by
  intro x hx
  simp only [U0, Prod.mk.injEq] at hx
  exact hx.2.symm
 obtain ⟨dst, op, type, pos, after, guard⟩ := o
 cases op <;> simp only [CG, Y1] at K0 hk <;> (try (rcases hk with hk | hk <;> cases hk; done)) <;> (try (cases K0; done)) <;> (try (exact BO K0)) <;> (try (exact SH K0))
 case convert src dst x =>
  split at K0
  ·exact BO K0
  ·rename_i e1 e2
   simp only [e1, e2] at hk
   rcases hk with hk | hk <;> cases hk
  ·exact BO K0
 case call c =>
  obtain ⟨callee, args, argTypes⟩ := c
  cases callee with
  | value f => rcases hk with hk | hk <;> cases hk
  | invoke r m => rcases hk with hk | hk <;> cases hk
  | builtin b =>
   cases b <;> (try (rcases hk with hk | hk <;> cases hk; done)) <;> simp only [F8] at K0
   case len =>
    generalize I4 e args = L at K0
    rcases L with _ | ⟨x, _ | ⟨y, L⟩⟩ <;> (try dsimp only at K0) <;> (try (cases K0; done))
    split at K0 <;> first | exact SH K0 | (cases K0; done) | skip
    simp only [Option.map_eq_some_iff, Prod.mk.injEq] at K0
    obtain ⟨u, hu, _, rfl⟩ := K0
    rfl
   case max =>
    generalize I4 e args = L at K0
    rcases L with _ | ⟨x, _ | ⟨y, _ | ⟨z, L⟩⟩⟩ <;> (try dsimp only at K0) <;> (try (cases K0; done)) <;> cases x <;> (try dsimp only at K0) <;> (try (cases K0; done)) <;> cases y <;> (try dsimp only at K0) <;> (try (cases K0; done))
    exact SH K0
   case min =>
    generalize I4 e args = L at K0
    rcases L with _ | ⟨x, _ | ⟨y, _ | ⟨z, L⟩⟩⟩ <;> (try dsimp only at K0) <;> (try (cases K0; done)) <;> cases x <;> (try dsimp only at K0) <;> (try (cases K0; done)) <;> cases y <;> (try dsimp only at K0) <;> (try (cases K0; done))
    exact SH K0
 all_goals
  repeat' (first | exact BO K0 | exact SH K0 | (cases K0; done) | split at K0)
 all_goals
  simp only [Option.map_eq_some_iff, Prod.mk.injEq] at K0
  obtain ⟨u, hu, _, rfl⟩ := K0
  rfl
theorem Vw {call : O5} {o : Oper} {e : Env} {h h' : A0} {v : VV} (hk : Y1 P o = .alloc) (K0 : CG P call o e h = some (v, h')) : ∃ obj, h' = h.push obj := by
 obtain ⟨dst, op, type, pos, after, guard⟩ := o
 cases op <;> simp only [CG, Y1] at K0 hk <;> (try (cases hk; done)) <;> (try (cases K0; done))
 case alloc t =>
  split at K0
  ·split at K0
   ·cases K0
   ·simp only [U0, Prod.mk.injEq] at K0; exact ⟨_, K0.2.symm⟩
  ·cases K0
 case box t x =>
  split at K0
  ·simp only [U0, Prod.mk.injEq] at K0; exact ⟨_, K0.2.symm⟩
  ·cases K0
 case buildSlice t len parts =>
  unfold u6 at K0
  split at K0
  ·split at K0
   ·simp only at K0
    split at K0
    ·cases K0
    ·split at K0
     ·split at K0
      ·simp only [U0, Prod.mk.injEq] at K0; exact ⟨_, K0.2.symm⟩
      ·cases K0
     ·cases K0
   ·cases K0
  ·cases K0
 case makeMap t r =>
  cases r with
  | some x => cases K0
  | none => simp only [U0, Prod.mk.injEq] at K0; exact ⟨_, K0.2.symm⟩
 case makeSlice t x y =>
  split at K0
  ·split at K0
   ·split at K0
    ·simp only [U0, Prod.mk.injEq] at K0; exact ⟨_, K0.2.symm⟩
    ·cases K0
   ·cases K0
  ·cases K0
 case convert src dst x =>
  split at K0
  ·rename_i e1 e2
   simp only [e1, e2] at hk
   cases hk
  ·unfold CJ at K0
   split at K0
   ·split at K0
    ·split at K0
     ·cases K0
     ·simp only [U0, Prod.mk.injEq] at K0; exact ⟨_, K0.2.symm⟩
    ·cases K0
   ·cases K0
  ·rename_i h1 h2
   exfalso
   split at hk
   ·exact h1 _ ‹_› ‹_›
   ·exact h2 _ ‹_› ‹_›
   ·cases hk
 case call c =>
  obtain ⟨callee, args, argTypes⟩ := c
  exfalso
  cases callee with
  | value f => cases hk
  | invoke r m => cases hk
  | builtin b =>
   cases b <;> first | (cases hk; done) | skip
   simp only at hk
   split at hk <;> cases hk
theorem mem_zipIdx {ops : Array Oper} {k : Nat} {x : Oper} (hk : ops[k]? = some x) : (x, k) ∈ ops.toList.zipIdx := by
 rw [List.mem_iff_getElem?]
 exact ⟨k, by rw [List.getElem?_zipIdx]; simp [hk]⟩
theorem X9 {ops : Array Oper} (h : AM P ops = true) {i j : Nat} {o p : Oper} (hj : ops[j]? = some o) (hi : ops[i]? = some p) (R3 : i < j)
  (hc : (S9 P o = true /\ M5 P p = true) \/ (∃ t, p.dst = some t /\ t ∈ J7 ops o) \/ (∃ t, o.dst = some t /\ t ∈ J7 ops p)) :
  ((Region.before ops).getD j 0).testBit i = true := by
 unfold AM at h
 have h1 := List.all_eq_true.1 h (o, j) (mem_zipIdx hj)
 simp only [Bool.and_eq_true] at h1
 have h2 := List.all_eq_true.1 h1.1.2 (p, i) (mem_zipIdx hi)
 simp only [Bool.or_eq_true] at h2
 rcases h2 with (h2 | h2) | h2
 ·have := Nat.le_of_ble_eq_true h2; omega
 ·exact h2
 ·exfalso
  rcases hc with ⟨c1, c2⟩ | ⟨t, c1, c2⟩ | ⟨t, c1, c2⟩
  ·simp [c1, c2] at h2
  ·simp [c1, c2] at h2
  ·simp [c1, c2] at h2
theorem TW {ops : Array Oper} (h : AM P ops = true) {j : Nat} {o : Oper} (hj : ops[j]? = some o) {e : Edge} (he : e ∈ o.after) (hb : Region.binds .any e = true) : e.on < j := by
 unfold AM at h
 have h1 := List.all_eq_true.1 h (o, j) (mem_zipIdx hj)
 simp only [Bool.and_eq_true] at h1
 have h2 := List.all_eq_true.1 h1.1.1 e (by simpa using he)
 simp only [hb, Bool.not_true, Bool.false_or] at h2
 exact Nat.lt_of_lt_of_le (Nat.lt_succ_self _) (Nat.le_of_ble_eq_true h2)
theorem RG {ops : Array Oper} (h : AM P ops = true) {i j k : Nat} {o p q : Oper} (hj : ops[j]? = some o) (he : S9 P o = false) (hc : M5 P o = true) (hi : ops[i]? = some p) (Rh : j < i) {t : Tmp} (hd : o.dst = some t) (ht : t ∈ J7 ops p)
  (hk : ops[k]? = some q) (jx : k < j) (hq : M5 P q = true) : ((Region.before ops).getD i 0).testBit k = true := by
 unfold AM at h
 have h1 := List.all_eq_true.1 h (o, j) (mem_zipIdx hj)
 simp only [Bool.and_eq_true, he, hc, Bool.not_true, Bool.false_or] at h1
 have h2 := List.all_eq_true.1 h1.2 (p, i) (mem_zipIdx hi)
 simp only [hd, Bool.or_eq_true] at h2
 rcases h2 with (h2 | h2) | h2
 ·have := Nat.le_of_ble_eq_true h2; omega
 ·simp [ht] at h2
 ·have h3 := List.all_eq_true.1 h2 (q, k) (mem_zipIdx hk)
  simp only [Bool.or_eq_true] at h3
  rcases h3 with (h3 | h3) | h3
  ·have := Nat.le_of_ble_eq_true h3; omega
  ·simp [hq] at h3
  ·exact h3
theorem mj {o : Oper} (he : S9 P o = true) : Y1 P o = .EV := by
 unfold S9 at he
 cases hk : Y1 P o <;> simp_all
def Down (ops : Array Oper) (S : Nat -> Prop) : Prop := ∀ j o, S j -> ops[j]? = some o -> ∀ e ∈ o.after, Region.binds .any e = true -> S e.on
theorem y6 {ops : Array Oper} {S : Nat -> Prop} (hS : Down ops S) {i j : Nat} (hb : ((Region.before ops).getD j 0).testBit i = true) (hj : S j) : S i := by
 have rf : ∀ (acc : Array Nat) (l : List Edge) (s : Nat) (i : Nat),
   (l.foldl (fun s e => if Region.binds .any e then s ||| 2 ^ e.on ||| acc.getD e.on 0 else s) s).testBit i = true -> s.testBit i = true \/ ∃ e ∈ l, Region.binds .any e = true /\ (i = e.on \/ (acc.getD e.on 0).testBit i = true) := by
  intro acc l
  induction l with
  | nil => intro s i h; exact .inl h
  | cons e l ih =>
   intro s i h
   rw [List.foldl_cons] at h
   rcases ih _ i h with h | ⟨e', rL, h2, h3⟩
   ·by_cases oq : Region.binds .any e = true
    ·rw [if_pos oq, Nat.testBit_or, Nat.testBit_or, Nat.testBit_two_pow] at h
     simp only [Bool.or_eq_true, decide_eq_true_eq] at h
     rcases h with (h | h) | h
     ·exact .inl h
     ·exact .inr ⟨e, by simp, oq, .inl h.symm⟩
     ·exact .inr ⟨e, by simp, oq, .inr h⟩
    ·rw [if_neg oq] at h; exact .inl h
   ·exact .inr ⟨e', by simp [rL], h2, h3⟩
 have main : ∀ (l : List Oper) (acc : Array Nat), (∀ k, l[k]? = ops[acc.size + k]?) -> (∀ j i, (acc.getD j 0).testBit i = true -> S j -> S i) ->
   ∀ j i, ((l.foldl (fun acc o => acc.push (o.after.foldl (fun s e => if Region.binds .any e then s ||| 2 ^ e.on ||| acc.getD e.on 0 else s) 0)) acc).getD j 0).testBit i = true -> S j -> S i := by
  intro l
  induction l with
  | nil => intro acc _ h j i hb hj; exact h j i hb hj
  | cons o l ih =>
   intro acc hl h j i hb hj
   rw [List.foldl_cons] at hb
   refine ih _ (fun k => ?_) ?_ j i hb hj
   ·have := hl (k + 1)
    rw [List.getElem?_cons_succ] at this
    rw [this, Array.size_push]
    congr 1; omega
   ·intro j i hb hj
    by_cases R3 : j < acc.size
    ·have e : (acc.push (o.after.foldl (fun s e => if Region.binds .any e then s ||| 2 ^ e.on ||| acc.getD e.on 0 else s) 0)).getD j 0 = acc.getD j 0 := by
      simp [Array.getD_eq_getD_getElem?, Array.getElem?_push, Nat.ne_of_lt R3]
     rw [e] at hb
     exact h j i hb hj
    ·by_cases heq : j = acc.size
     ·subst heq
      have e : (acc.push (o.after.foldl (fun s e => if Region.binds .any e then s ||| 2 ^ e.on ||| acc.getD e.on 0 else s) 0)).getD acc.size 0 = o.after.foldl (fun s e => if Region.binds .any e then s ||| 2 ^ e.on ||| acc.getD e.on 0 else s) 0 := by
       simp [Array.getD_eq_getD_getElem?]
      rw [e, <- Array.foldl_toList] at hb
      have ho : ops[acc.size]? = some o := by have := hl 0; simpa using this.symm
      rcases rf acc _ _ i hb with h1 | ⟨ed, xh, oq, h2⟩
      ·simp at h1
      ·have wB := hS acc.size o hj ho ed (by simpa using xh) oq
       rcases h2 with rfl | h2
       ·exact wB
       ·exact h _ _ h2 wB
     ·have e : (acc.push (o.after.foldl (fun s e => if Region.binds .any e then s ||| 2 ^ e.on ||| acc.getD e.on 0 else s) 0)).getD j 0 = 0 := by
       simp only [Array.getD_eq_getD_getElem?]
       rw [Array.getElem?_eq_none (by simp; omega)]
       rfl
      rw [e] at hb
      simp at hb
 unfold Region.before at hb
 rw [<- Array.foldl_toList] at hb
 exact main ops.toList #[] (fun k => by simp) (fun j i hb => by simp at hb) j i hb hj
def D9 (ops : Array Oper) (val : Nat -> VV) (S : Nat -> Bool) (e0 : Env) : Nat -> Tmp -> VV
 | 0, t => e0.get t
 | k + 1, t => if S k = true /\ (ops[k]?).bind (·.dst) = some t then val k else D9 ops val S e0 k t
theorem RE {call : O5} {ops : Array Oper} {Q7 : Array Nat} {n : Nat} {env : Nat -> Env} {heap : Nat -> A0} {val : Nat -> VV} {wn : Nat -> Bool} (tr : Trace P call ops Q7 0 n env heap val wn) (hn : n = ops.size) :
  ∀ k, k <= n -> ∀ t, (env k).get t = D9 ops val (fun _ => true) (env 0) k t
 | 0, _, t => rfl
 | k + 1, hk, t => by
  obtain ⟨o, ho⟩ : ∃ o, ops[k]? = some o := ⟨ops[k]'(by omega), Array.getElem?_eq_getElem (by omega)⟩
  obtain ⟨_, h2, _⟩ := tr.step k o (Nat.zero_le _) (by omega) ho
  have ih := RE tr hn k (by omega) t
  rw [h2]
  simp only [D9, ho, Option.bind_some, true_and]
  cases hd : o.dst with
  | none => simp only [Env.put]; rw [if_neg (by simp)]; exact ih
  | some d =>
   simp only [Env.put, Env.ER]
   by_cases ht : t = d
   ·subst ht; rw [if_pos rfl, if_pos rfl]
   ·rw [if_neg ht, if_neg (fun e => ht (by simpa using e.symm))]; exact ih
theorem Pa {ops : Array Oper} (I5 : AM P ops = true) {S : Nat -> Bool} {val : Nat -> VV} {e0 : Env} (hS : Down ops (fun k => S k = true)) {i : Nat} {o : Oper} (ho : ops[i]? = some o) (hi : S i = false)
  (JR : ∀ e ∈ o.after, Region.binds .any e = true -> S e.on = true) {t : Tmp} (ht : t ∈ J7 ops o) : ∀ k, D9 ops val S e0 k t = D9 ops val (fun _ => true) e0 (min k i) t
 | 0 => by simp [D9]
 | k + 1 => by
  have ih := Pa I5 (val := val) (e0 := e0) hS ho hi JR ht k
  
  have TK : Down ops (fun k => S k = true \/ k = i) := by
   intro j p hj hp e he hb
   rcases hj with hj | rfl
   ·exact .inl (hS j p hj hp e he hb)
   ·rw [ho] at hp; simp only [U0] at hp; subst hp
    exact .inl (JR e he hb)
  simp only [D9]
  by_cases Fe : k < i
  ·rw [show min (k + 1) i = k + 1 by omega]
   rw [show min k i = k by omega] at ih
   simp only [D9, true_and]
   by_cases hd : (ops[k]?).bind (·.dst) = some t
   ·obtain ⟨p, hp, mA⟩ := Option.bind_eq_some_iff.1 hd
    have hb := X9 I5 ho hp Fe (.inr (.inl ⟨t, mA, ht⟩))
    have Zf := y6 TK hb (.inr rfl)
    rcases Zf with Zf | Zf
    ·rw [if_pos ⟨Zf, hd⟩, if_pos hd]
    ·omega
   ·rw [if_neg (fun h => hd h.2), if_neg hd]; exact ih
  ·rw [show min (k + 1) i = i by omega]
   rw [show min k i = i by omega] at ih
   rw [if_neg]
   ·exact ih
   ·rintro ⟨Zf, hd⟩
    by_cases sW : k = i
    ·subst sW; rw [hi] at Zf; cases Zf
    ·obtain ⟨p, hp, mA⟩ := Option.bind_eq_some_iff.1 hd
     have hb := X9 I5 hp ho (by omega) (.inr (.inr ⟨t, mA, ht⟩))
     have : S i = true := y6 hS hb Zf
     rw [hi] at this; cases this
theorem XH {ops : Array Oper} (I5 : AM P ops = true) {S S' : Nat -> Bool} {val : Nat -> VV} {e0 : Env} (hS : Down ops (fun k => S k = true)) {i : Nat} {o : Oper} (ho : ops[i]? = some o) (hi : S i = false)
  (PS : ∀ k, S' k = if k = i then true else S k) (t : Tmp) : ∀ k, D9 ops val S' e0 k t = if i < k /\ o.dst = some t then val i else D9 ops val S e0 k t
 | 0 => by simp [D9]
 | k + 1 => by
  have ih := XH I5 (val := val) (e0 := e0) hS ho hi PS t k
  simp only [D9, PS]
  by_cases Fe : k = i
  ·subst Fe
   simp only [if_true, true_and, ho, Option.bind_some]
   by_cases hd : o.dst = some t
   ·rw [if_pos hd, if_pos ⟨by omega, hd⟩]
   ·rw [if_neg hd, if_neg (fun h => hd h.2), ih, if_neg (fun h => hd h.2), if_neg (fun h => hd h.2)]
  ·rw [if_neg Fe, ih]
   by_cases hc : S k = true /\ (ops[k]?).bind (·.dst) = some t
   ·rw [if_pos hc, if_pos hc, if_neg]
    rintro ⟨R3, hd⟩
    obtain ⟨p, hp, mA⟩ := Option.bind_eq_some_iff.1 hc.2
    have hb := X9 I5 hp ho (by omega) (.inr (.inl ⟨t, hd, by simp [J7, mA]⟩))
    have : S i = true := y6 hS hb hc.1
    rw [hi] at this; cases this
   ·rw [if_neg hc, if_neg hc]
    by_cases R3 : i < k
    ·by_cases hd : o.dst = some t
     ·rw [if_pos ⟨R3, hd⟩, if_pos ⟨by omega, hd⟩]
     ·rw [if_neg (fun h => hd h.2), if_neg (fun h => hd h.2)]
    ·rw [if_neg (fun h => R3 h.1), if_neg (fun h => by omega)]
end
end Go.Proofs.Ythlbahcggmbfaaa.V
namespace Go.Proofs.Ythlbahcggmbfaaa.V
open Go.RowKit
section
variable {P : Program}
def FC (S : Nat -> Bool) : Nat -> Nat
 | 0 => 0
 | k + 1 => (if S k then 0 else 1) + FC S k
theorem Ov {S S' : Nat -> Bool} {i : Nat} (hi : S i = false) (PS : ∀ k, S' k = if k = i then true else S k) : ∀ n, FC S n = FC S' n + (if i < n then 1 else 0)
 | 0 => by simp [FC]
 | n + 1 => by
  have ih := Ov hi PS n
  simp only [FC, PS]
  by_cases oY : n = i
  ·subst oY; simp only [hi, if_true]; rw [if_neg (by omega)] at ih; simp; omega
  ·rw [if_neg oY]
   by_cases R3 : i < n
   ·rw [if_pos R3] at ih; rw [if_pos (show i < n + 1 by omega)]; omega
   ·rw [if_neg R3] at ih; rw [if_neg (show ¬ i < n + 1 by omega)]; omega
theorem Lu {S : Nat -> Bool} : ∀ n, FC S n = 0 -> ∀ k, k < n -> S k = true
 | 0, _, k, hk => by omega
 | n + 1, h, k, hk => by
  simp only [FC] at h
  by_cases sV : k = n
  ·subst sV
   cases hS : S k with
   | true => rfl
   | false => rw [hS] at h; simp at h
  ·exact Lu n (by omega) k (by omega)
variable {call : O5} {ops : Array Oper} {Q7 : Array Nat} {n : Nat} {env : Nat -> Env} {heap : Nat -> A0} {val : Nat -> VV} {wn : Nat -> Bool}
theorem EP (tr : Trace P call ops Q7 0 n env heap val wn) (hn : n = ops.size) (i j : Nat) (PQ : i <= j) (hj : j <= n) (h : ∀ k o, i <= k -> k < j -> ops[k]? = some o -> wn k = true -> Y1 P o ≠ .EV) :
  ∀ b o, (heap i).get b = some o -> (heap j).get b = some o := by
 induction j with
 | zero => rw [show i = 0 by omega]; exact fun _ _ h => h
 | succ j ih =>
  by_cases hi : i = j + 1
  ·rw [hi]; exact fun _ _ h => h
  ·have ih := ih (by omega) (by omega) (fun k o h1 h2 => h k o h1 (by omega))
   obtain ⟨o, ho⟩ : ∃ o, ops[j]? = some o := ⟨ops[j]'(by omega), Array.getElem?_eq_getElem (by omega)⟩
   obtain ⟨_, _, h3, h4⟩ := tr.step j o (Nat.zero_le _) (by omega) ho
   intro b ob hb
   have Rk := ih b ob hb
   cases hw : wn j with
   | false => rw [(h4 hw).2]; exact Rk
   | true =>
    have Y3 := h j o (by omega) (by omega) ho hw
    cases hk : Y1 P o with
    | EV => exact absurd hk Y3
    | pure => rw [EA (.inl hk) (h3 hw)]; exact Rk
    | read => rw [EA (.inr hk) (h3 hw)]; exact Rk
    | alloc =>
     obtain ⟨obj, ql⟩ := Vw hk (h3 hw)
     rw [ql, A0.V0, if_neg (by have := A0.E7 Rk; omega)]
     exact Rk
def V3 (P : Program) (ops : Array Oper) (wn : Nat -> Bool) (n : Nat) (S : Nat -> Bool) (c k : Nat) : Prop := S k = true /\ c <= k /\ k < n /\ wn k = true /\ ∃ o, ops[k]? = some o /\ M5 P o = true
structure Xf (ops : Array Oper) (heap : Nat -> A0) (val : Nat -> VV) (w0 : World) (ρ : Ren) (a : Act) (w : World) (l : Loc) (k : Nat) : Prop where
 ex : ∃ obj m mv, heap (k + 1) = (heap k).push obj /\ (∀ q, obj = .cells q -> q.Q1 = (heap k).next) /\ Cg ρ l obj (some m) /\ w.heap[l.mb]? = some m /\
  (∀ ρ' : Ren, ρ' (heap k).next = some l -> Y0 ρ' (val k) mv) /\ ∀ o t, ops[k]? = some o -> o.dst = some t -> a.tmps.getD t undef = mv
 wT : w0.heap.size <= l.mb
 free : ∀ b l', ρ b = some l' -> l'.mb ≠ l.mb
theorem Xf.next {w0 : World} {ρ ρ' : Ren} {a a' : Act} {w w' : World} {l : Loc} {k : Nat} (h : Xf ops heap val w0 ρ a w l k) (hle : Ren.le ρ ρ') (hw : w'.heap[l.mb]? = w.heap[l.mb]?)
  (hf : ∀ b l', ρ' b = some l' -> l'.mb ≠ l.mb) (ht : ∀ o t, ops[k]? = some o -> o.dst = some t -> a'.tmps.getD t undef = a.tmps.getD t undef) : Xf ops heap val w0 ρ' a' w' l k := by
 obtain ⟨obj, m, mv, h1, h2, h3, h4, h5, h6⟩ := h.ex
 exact ⟨⟨obj, m, mv, h1, h2, h3.mono hle, hw.trans h4, h5, fun o t ho hd => (ht o t ho hd).trans (h6 o t ho hd)⟩, h.wT, hf⟩
structure Xc (P : Program) (ops : Array Oper) (n N : Nat) (env : Nat -> Env) (heap : Nat -> A0) (val : Nat -> VV) (wn : Nat -> Bool) (S : Nat -> Bool) (ρ0 : Ren) (w0 : World) (a : Act) (w : World) (ρ : Ren) (c : Nat) (el : Nat -> Loc) : Prop where
 down : Down ops (fun k => S k = true)
 cn : c <= n
 Je : ∀ k o, k < n -> ops[k]? = some o -> S9 P o = true -> S k = true -> k < c
 chain : ∀ k o, k < n -> ops[k]? = some o -> M5 P o = true -> k < c -> S k = true
 step : Step ρ0 (heap 0).get (heap 0).next w0 ρ (heap c).get (heap c).next w
 env : ∀ t, (∀ k, V3 P ops wn n S c k -> ∀ o, ops[k]? = some o -> o.dst ≠ some t) -> Y0 ρ (D9 ops val S (env 0) n t) (a.tmps.getD t undef)
 early : ∀ k, V3 P ops wn n S c k -> Xf ops heap val w0 ρ a w (el k) k
 Ax : ∀ j k, V3 P ops wn n S c j -> V3 P ops wn n S c k -> j ≠ k -> (el j).mb ≠ (el k).mb
 unnamed : ∀ k, V3 P ops wn n S c k -> ∀ o t, ops[k]? = some o -> o.dst = some t -> ∀ i p, k < i -> ops[i]? = some p -> S i = true -> t ∉ J7 ops p
 size : a.tmps.size = N
 defers : a.defers = []
 beyond : ∀ k, n <= k -> S k = false
theorem No {S : Nat -> Bool} {e0 : Env} {c : Nat} {t : Tmp} (hS : S c = true) (hd : (ops[c]?).bind (·.dst) = some t) : ∀ n, c < n -> (∀ k, c < k -> k < n -> S k = true -> (ops[k]?).bind (·.dst) ≠ some t) -> D9 ops val S e0 n t = val c
 | 0, h, _ => by omega
 | n + 1, h, hl => by
  simp only [D9]
  by_cases hn : n = c
  ·subst hn; rw [if_pos ⟨hS, hd⟩]
  ·rw [if_neg (fun hh => hl n (by omega) (by omega) hh.1 hh.2)]
   exact No hS hd n (by omega) (fun k h1 h2 => hl k h1 (by omega))
theorem gA {h : A0} (hw : WF h.get h.next) (o : F2) (hf : ∀ k, o = .cells k -> k.Q1 = h.next) : WF (h.push o).get (h.next + 1) := by
 refine ⟨?_, ?_, ?_, ?_, ?_⟩
 ·intro b o' hb
  rw [A0.V0] at hb
  split at hb
  ·omega
  ·have := hw.lt b o' hb; omega
 ·intro b k hb
  rw [A0.V0] at hb
  split at hb
  ·simp only [U0] at hb; have := hf k hb; omega
  ·have := hw.Q1 b k hb; omega
 ·intro b k hb hs b' k' H3 Y3
  rw [A0.V0] at hb H3
  split at hb
  ·rename_i e; subst e
   simp only [U0] at hb
   rw [if_neg Y3] at H3
   have := hw.Q1 b' k' H3
   have := hf k hb
   omega
  ·split at H3
   ·simp only [U0] at H3
    have := hw.Q1 b k hb
    have := hf k' H3
    omega
   ·exact hw.Q2 b k hb hs b' k' H3 Y3
 ·intro b k hb hs b' k' H3 CW
  rw [A0.V0] at hb H3
  split at hb
  ·rename_i e; subst e
   split at H3
   ·rename_i e'; subst e'
    rw [hb] at H3
    simp only [U0, F2.cells.injEq] at H3; subst H3; exact .inr (Nat.le_refl _)
   ·simp only [U0] at hb
    have := hw.Q1 b' k' H3
    have := hf k hb
    omega
  ·split at H3
   ·simp only [U0] at H3
    have := hw.Q1 b k hb
    have := hf k' H3
    omega
   ·exact hw.last b k hb hs b' k' H3 CW
 ·intro b k hb hs b' k' H3 CW Oa
  rw [A0.V0] at hb H3
  split at hb
  ·rename_i e; subst e
   split at H3
   ·assumption
   ·simp only [U0] at hb
    have := hw.Q1 b' k' H3
    have := hf k hb
    omega
  ·split at H3
   ·simp only [U0] at H3
    have := hw.Q1 b k hb
    have := hf k' H3
    omega
   ·exact hw.Gq b k hb hs b' k' H3 CW Oa
theorem Xc.raise (tr : Trace P call ops (Region.before ops) 0 n env heap val wn) (hn : n = ops.size) {N : Nat} {S : Nat -> Bool} {ρ0 ρ : Ren} {w0 w : World} {a : Act} {c : Nat} {el : Nat -> Loc} (hM : Xc P ops n N env heap val wn S ρ0 w0 a w ρ c el)
  (hc : c < n) (hS : ∀ o, ops[c]? = some o -> M5 P o = true -> S c = true) : ∃ ρ', Xc P ops n N env heap val wn S ρ0 w0 a w ρ' (c + 1) el := by
 obtain ⟨o, ho⟩ : ∃ o, ops[c]? = some o := ⟨ops[c]'(by omega), Array.getElem?_eq_getElem (by omega)⟩
 obtain ⟨_, _, h3, h4⟩ := tr.step c o (Nat.zero_le _) hc ho
 have up : ∀ k, V3 P ops wn n S (c + 1) k -> V3 P ops wn n S c k := fun k ⟨e1, e2, e3⟩ => ⟨e1, by omega, e3⟩
 have du : ∀ k q, k < n -> ops[k]? = some q -> M5 P q = true -> k < c + 1 -> S k = true := by
  intro k q hk hq sN R3
  by_cases rD : k = c
  ·subst rD; exact hS q hq sN
  ·exact hM.chain k q hk hq sN (by omega)
 have XK : ∀ k q, k < n -> ops[k]? = some q -> S9 P q = true -> S k = true -> k < c + 1 := fun k q hk hq he hs => Nat.lt_succ_of_lt (hM.Je k q hk hq he hs)
 have still : heap (c + 1) = heap c -> ¬ V3 P ops wn n S c c -> ∃ ρ', Xc P ops n N env heap val wn S ρ0 w0 a w ρ' (c + 1) el := by
  intro hh Y3
  have dn : ∀ k, V3 P ops wn n S c k -> V3 P ops wn n S (c + 1) k := fun k hk => by
   have : k ≠ c := fun e => Y3 (e ▸ hk)
   obtain ⟨e1, e2, e3⟩ := hk
   exact ⟨e1, by omega, e3⟩
  exact ⟨ρ, hM.down, hc, XK, du, by rw [hh]; exact hM.step, fun t ht => hM.env t fun k hk => ht k (dn k hk), fun k hk => hM.early k (up k hk), fun j k hj hk => hM.Ax j k (up j hj) (up k hk),
   fun k hk => hM.unnamed k (up k hk), hM.size, hM.defers, hM.beyond⟩
 cases hw : wn c with
 | false => exact still (h4 hw).2 (fun h => by have := h.2.2.2.1; rw [hw] at this; cases this)
 | true =>
  cases im : M5 P o with
  | false =>
   refine still (EA (by unfold M5 at im; cases hk : Y1 P o <;> simp_all) (h3 hw)) (fun h => ?_)
   obtain ⟨o', CV, Wz⟩ := h.2.2.2.2
   rw [ho] at CV; simp only [U0] at CV; subst CV
   rw [im] at Wz; cases Wz
  | true =>
   have si := hS o ho im
   have hE : V3 P ops wn n S c c := ⟨si, Nat.le_refl _, hc, hw, o, ho, im⟩
   obtain ⟨obj, m, mv, q1, q2, q3, q4, q5, q6⟩ := (hM.early c hE).ex
   have cK := hM.step.rel.none hM.step.wf (Nat.le_refl (heap c).next)
   have hle := Ren.NO (l := el c) cK
   have U8 : (ρ.add (heap c).next (el c)) (heap c).next = some (el c) := by simp [Ren.add]
   have cH : ∀ b l', (ρ.add (heap c).next (el c)) b = some l' -> ρ b = some l' \/ (b = (heap c).next /\ l' = el c) := by
    intro b l' hb
    unfold Ren.add at hb
    split at hb
    ·rename_i e; simp only [U0] at hb; exact .inr ⟨e, hb.symm⟩
    ·exact .inl hb
   have O8 : ∀ b ob, (heap c).get b = some ob -> (heap (c + 1)).get b = some ob := by
    intro b ob hb
    rw [q1, A0.V0, if_neg (by have := A0.E7 hb; omega)]
    exact hb
   refine ⟨ρ.add (heap c).next (el c), hM.down, hc, XK, du, ?_, ?_, ?_, fun j k hj hk => hM.Ax j k (up j hj) (up k hk), fun k hk => hM.unnamed k (up k hk), hM.size, hM.defers, hM.beyond⟩
   ·refine ⟨hM.step.gU, ?_, ?_, hM.step.le.trans hle, ?_, hM.step.os, hM.step.tape, hM.step.output, hM.step.size, hM.step.old, ?_, ?_, ?_⟩
    ·rw [q1]
     refine hM.step.rel.insert (o := obj) cK (by rw [A0.V0, if_pos rfl]) (fun b hb _ => by rw [A0.V0, if_neg hb]) (by rw [q4]; exact q3) ?_
     intro b2 l2 o2 h2 _ Ek
     exact absurd Ek ((hM.early c hE).free b2 l2 h2)
    ·rw [q1]; exact gA hM.step.wf obj q2
    ·rw [q1]; exact Nat.le_trans hM.step.oO (Nat.le_succ _)
    ·intro b l' hb
     rcases cH b l' hb with h | ⟨rfl, rfl⟩
     ·exact hM.step.new b l' h
     ·exact .inr ⟨hM.step.oO, .inl (hM.early c hE).wT⟩
    ·intro b k hb
     obtain ⟨k', Ze, e⟩ := hM.step.ro b k hb
     exact ⟨k', O8 _ _ Ze, e⟩
    ·intro b es hb
     obtain ⟨Aw, rL⟩ := hM.step.pO b es hb
     exact ⟨Aw, O8 _ _ rL⟩
   ·intro t ht
    by_cases hd : o.dst = some t
    ·rw [No si (by rw [ho]; exact hd) n hc (fun k h1 h2 Zf xk => ?_), q6 o t ho hd]
     ·exact q5 _ U8
     ·obtain ⟨p, hp, mA⟩ := Option.bind_eq_some_iff.1 xk
      exact hM.unnamed c hE o t ho hd k p h1 hp Zf (by simp [J7, mA])
    ·refine (hM.env t fun k hk q hq => ?_).mono hle
     by_cases rD : k = c
     ·subst rD; rw [ho] at hq; simp only [U0] at hq; subst hq; exact hd
     ·obtain ⟨e1, e2, e3⟩ := hk
      exact ht k ⟨e1, by omega, e3⟩ q hq
   ·intro k hk
    refine (hM.early k (up k hk)).next hle rfl (fun b l' hb => ?_) (fun _ _ _ _ => rfl)
    rcases cH b l' hb with h | ⟨rfl, rfl⟩
    ·exact (hM.early k (up k hk)).free b l' h
    ·exact hM.Ax c k hE (up k hk) (by have := hk.2.1; omega)
theorem Xc.top (tr : Trace P call ops (Region.before ops) 0 n env heap val wn) (hn : n = ops.size) {N : Nat} {S : Nat -> Bool} {ρ0 : Ren} {w0 w : World} {a : Act} {el : Nat -> Loc} : ∀ (m c : Nat) (ρ : Ren), n <= c + m -> Xc P ops n N env heap val wn S ρ0 w0 a w ρ c el ->
  ∃ ρ' c', Xc P ops n N env heap val wn S ρ0 w0 a w ρ' c' el /\ (c' < n -> ∃ o, ops[c']? = some o /\ M5 P o = true /\ S c' = false)
 | 0, c, ρ, h, hM => ⟨ρ, c, hM, fun hc => by omega⟩
 | m + 1, c, ρ, h, hM => by
  by_cases hc : c < n
  ·by_cases hS : ∀ o, ops[c]? = some o -> M5 P o = true -> S c = true
   ·obtain ⟨ρ', rV⟩ := hM.raise tr hn hc hS
    exact Xc.top tr hn m (c + 1) ρ' (by omega) rV
   ·refine ⟨ρ, c, hM, fun _ => ?_⟩
    obtain ⟨o, ho⟩ : ∃ o, ops[c]? = some o := ⟨ops[c]'(by omega), Array.getElem?_eq_getElem (by omega)⟩
    refine ⟨o, ho, ?_, ?_⟩
    ·cases im : M5 P o with
     | true => rfl
     | false => exact absurd (fun o' CV Wz => by rw [ho] at CV; simp only [U0] at CV; subst CV; rw [im] at Wz; cases Wz) hS
    ·cases si : S c with
     | false => rfl
     | true => exact absurd (fun _ _ _ => si) hS
  ·exact ⟨ρ, c, hM, fun h => absurd h hc⟩
theorem bc (I5 : AM P ops = true) (U6 : Hm P call) {N : Nat} (JW : ∀ (k : Nat) (o : Oper), ops[k]? = some o -> ∀ d, o.dst = some d -> d < N) (tr : Trace P call ops (Region.before ops) 0 n env heap val wn) (hn : n = ops.size)
  {S S' : Nat -> Bool} {ρ0 ρ1 : Ren} {w0 w : World} {a : Act} {c1 : Nat} {el : Nat -> Loc} (uz : Xc P ops n N env heap val wn S ρ0 w0 a w ρ1 c1 el) (hG : Gd ρ0 (heap 0).get w0) {i : Nat} {o : Oper} (ho : ops[i]? = some o) (hi : S i = false)
  (JR : ∀ e ∈ o.after, Region.binds .any e = true -> S e.on = true) (PS : ∀ k, S' k = if k = i then true else S k) (Q : Exit -> Act -> World -> Prop) (K : Act -> World -> Prop)
  (hK : ∀ a' w' ρ' c' vM, Xc P ops n N env heap val wn S' ρ0 w0 a' w' ρ' c' vM -> K a' w') : wpOp P ops Q i K a w := by
 obtain ⟨ρ, c, hM, iV⟩ := uz.top tr hn n c1 ρ1 (by omega)
 have U8 : i < n := by rw [hn]; exact (Array.getElem?_eq_some_iff.1 ho).1
 obtain ⟨cA, henv, j4, qd⟩ := tr.step i o (Nat.zero_le _) U8 ho
 
 have TK : Down ops (fun k => S k = true \/ k = i) := by
  intro j p hj hp e he hb
  rcases hj with hj | rfl
  ·exact .inl (hM.down j p hj hp e he hb)
  ·rw [ho] at hp; simp only [U0] at hp; subst hp
   exact .inl (JR e he hb)
 have Vf : Down ops (fun k => S' k = true) := by
  intro j p hj hp e he hb
  simp only [PS] at hj ⊢
  by_cases Rh : j = i
  ·subst Rh
   rw [ho] at hp; simp only [U0] at hp; subst hp
   have := JR e he hb
   split
   ·rfl
   ·exact this
  ·rw [if_neg Rh] at hj
   have := hM.down j p hj hp e he hb
   split
   ·rfl
   ·exact this
 
 have named : ∀ t, t ∈ J7 ops o -> ∀ k, V3 P ops wn n S c k -> ∀ q, ops[k]? = some q -> q.dst ≠ some t := by
  intro t ht k hk q hq hd
  obtain ⟨e1, e2, e3, e4, q', fj, e5⟩ := hk
  rw [hq] at fj; simp only [U0] at fj; subst fj
  have Fe : k ≠ i := fun e => by subst e; rw [hi] at e1; cases e1
  by_cases R3 : i < k
  ·have hb := X9 I5 hq ho R3 (.inr (.inr ⟨t, hd, ht⟩))
   have : S i = true := y6 hM.down hb e1
   rw [hi] at this; cases this
  ·have he : S9 P q = false := by
    cases he : S9 P q with
    | false => rfl
    | true => have := hM.Je k q e3 hq he e1; omega
   obtain ⟨oc, uA, UJ, Q3⟩ := iV (by omega)
   by_cases rR : c = k
   ·subst rR; rw [e1] at Q3; cases Q3
   ·have hb := RG I5 hq he e5 ho (by omega) hd ht uA (by omega) UJ
    rcases y6 TK hb (.inr rfl) with h | h
    ·rw [Q3] at h; cases h
    ·omega
 
 have qe : ∀ t, t ∈ J7 ops o -> Y0 ρ ((env i).get t) (a.tmps.getD t undef) := by
  intro t ht
  have h1 := hM.env t (named t ht)
  rw [Pa I5 hM.down ho hi JR ht n, show min n i = i by omega, <- RE tr hn i (by omega) t] at h1
  exact h1
 have mC : ∀ x ∈ o.op.operands, Y0 ρ (ev (env i) x) (a.eval x) := by
  intro x hx
  cases x with
  | tmp t => exact qe t (by simp only [J7, List.mem_append, List.mem_filterMap]; exact .inl (.inr ⟨.tmp t, by simpa using hx, rfl⟩))
  | const v =>
   show Y0 ρ ((n5 3 v).getD .undef) v
   cases hv : n5 3 v with
   | none => exact .undef v
   | some x => exact GJ ρ 3 v x hv
  | global g => exact .undef _
  | func f => exact .func _ [] [] #[] #[] rfl rfl (by simp) (by simp)
 have La : Region.wanted o (yielded ops a.tmps) = wn i := Lm (ρ := ρ) cA (fun j want t hg hd => qe t (by
  simp only [J7, List.mem_append, hg, hd]
  exact .inr (by simp)))
 
 have VY : ∀ mv k, V3 P ops wn n S c k -> ∀ q t, ops[k]? = some q -> q.dst = some t -> (a.put o.dst mv).tmps.getD t undef = a.tmps.getD t undef := by
  intro mv k hk q t hq hd
  cases tz : o.dst with
  | none => rfl
  | some d =>
   have Y3 : d ≠ t := fun e => named d (by simp [J7, tz]) k hk q hq (by rw [e]; exact hd)
   simp [Act.put, Array.getElem?_setIfInBounds_ne Y3]
 have Fc : ∀ mv, (a.put o.dst mv).tmps.size = N /\ (a.put o.dst mv).defers = [] := by
  intro mv
  constructor
  ·cases o.dst <;> simp [Act.put, hM.size]
  ·cases o.dst <;> simp [Act.put, hM.defers]
 have NZ : ∀ k, n <= k -> S' k = false := fun k hk => by rw [PS, if_neg (by omega)]; exact hM.beyond k hk
 have sj : ∀ k, S k = true -> S' k = true := fun k hk => by
  rw [PS]
  split
  ·rfl
  ·exact hk
 have back : ∀ c' k, c <= c' -> V3 P ops wn n S' c' k -> k = i \/ V3 P ops wn n S c k := by
  intro c' k UJ ⟨e1, e2, e3⟩
  by_cases Fe : k = i
  ·exact .inl Fe
  ·rw [PS, if_neg Fe] at e1
   exact .inr ⟨e1, by omega, e3⟩
 have Lv : ∀ c', c <= c' -> ∀ k, V3 P ops wn n S' c' k -> ∀ q t, ops[k]? = some q -> q.dst = some t -> ∀ j p, k < j -> ops[j]? = some p -> S' j = true -> t ∉ J7 ops p := by
  intro c' UJ k hk q t hq hd j p jx hp ur hm
  by_cases Rh : j = i
  ·subst Rh
   rw [ho] at hp; simp only [U0] at hp; subst hp
   rcases back c' k UJ hk with h | h
   ·omega
   ·exact named t hm k h q hq hd
  ·rw [PS, if_neg Rh] at ur
   rcases back c' k UJ hk with h | h
   ·subst h
    rw [ho] at hq; simp only [U0] at hq; subst hq
    have hb := X9 I5 hp ho jx (.inr (.inl ⟨t, hd, hm⟩))
    have : S k = true := y6 hM.down hb ur
    rw [hi] at this; cases this
   ·exact hM.unnamed k h q t hq hd j p jx hp ur hm
 
 have Vd : ∀ (ρ' : Ren) (mv : Value) (c' : Nat), Ren.le ρ ρ' -> (∀ k, V3 P ops wn n S c k -> V3 P ops wn n S' c' k) -> (Y0 ρ' (val i) mv \/ V3 P ops wn n S' c' i) ->
   ∀ t, (∀ k, V3 P ops wn n S' c' k -> ∀ q, ops[k]? = some q -> q.dst ≠ some t) -> Y0 ρ' (D9 ops val S' (env 0) n t) ((a.put o.dst mv).tmps.getD t undef) := by
  intro ρ' mv c' hle JQ hv t ht
  have hold := fun (k : Nat) (hk : V3 P ops wn n S c k) => ht k (JQ k hk)
  rw [XH I5 hM.down ho hi PS t n]
  cases hd : o.dst with
  | none =>
   rw [if_neg (by simp)]
   exact (hM.env t hold).mono hle
  | some d =>
   have R3 : d < a.tmps.size := by rw [hM.size]; exact JW i o ho d hd
   by_cases ub : d = t
   ·subst ub
    rcases hv with hv | hv
    ·rw [if_pos ⟨U8, rfl⟩]
     simp [Act.put, R3, hv]
    ·exact absurd hd (ht i hv o ho)
   ·rw [if_neg (fun h => ub (by simpa using h.2))]
    have : (a.put (some d) mv).tmps.getD t undef = a.tmps.getD t undef := by
     simp [Act.put, Array.getElem?_setIfInBounds_ne ub]
    rw [this]
    exact (hM.env t hold).mono hle
 have stay : ∀ k, V3 P ops wn n S c k -> V3 P ops wn n S' c k := fun k ⟨e1, e2⟩ => ⟨sj k e1, e2⟩
 
 have aside : ∀ (mv : Value), S9 P o = false -> ¬ V3 P ops wn n S' c i -> Y0 ρ (val i) mv -> Xc P ops n N env heap val wn S' ρ0 w0 (a.put o.dst mv) w ρ c el := by
  intro mv Y3 oY hv
  have Gz : ∀ k, V3 P ops wn n S' c k -> V3 P ops wn n S c k := fun k hk => by
   rcases back c k (Nat.le_refl _) hk with h | h
   ·subst h; exact absurd hk oY
   ·exact h
  refine ⟨Vf, hM.cn, ?_, fun k q hk hq hc R3 => sj k (hM.chain k q hk hq hc R3), hM.step, Vd ρ mv c (Ren.le.refl ρ) stay (.inl hv), fun k hk => ?_, fun j k hj hk => hM.Ax j k (Gz j hj) (Gz k hk), Lv c (Nat.le_refl _), (Fc mv).1, (Fc mv).2, NZ⟩
  ·intro k q hk hq he hs
   rw [PS] at hs
   by_cases Fe : k = i
   ·subst Fe; rw [ho] at hq; simp only [U0] at hq; subst hq; rw [Y3] at he; cases he
   ·rw [if_neg Fe] at hs; exact hM.Je k q hk hq he hs
  ·exact (hM.early k (Gz k hk)).next (Ren.le.refl ρ) rfl (hM.early k (Gz k hk)).free (fun q t hq hd => VY mv k (Gz k hk) q t hq hd)
 
 have BK : S9 P o = true -> c = i /\ ∀ k p, k < i -> ops[k]? = some p -> M5 P p = true -> S k = true := by
  intro he
  have hc : M5 P o = true := by simp [M5, mj he]
  have RA : ∀ k p, k < i -> ops[k]? = some p -> M5 P p = true -> S k = true := by
   intro k p hk hp xN
   rcases y6 TK (X9 I5 ho hp hk (.inl ⟨he, xN⟩)) (.inr rfl) with h | h
   ·exact h
   ·omega
  refine ⟨?_, RA⟩
  rcases Nat.lt_trichotomy c i with h | h | h
  ·obtain ⟨oc, uA, UJ, Q3⟩ := iV (by omega)
   rw [RA c oc h uA UJ] at Q3; cases Q3
  ·exact h
  ·have := hM.chain i o U8 ho hc h
   rw [hi] at this; cases this
 have after : ∀ (mv : Value) (ρ' : Ren) (w' : World), S9 P o = true -> Step ρ (heap i).get (heap i).next w ρ' (heap (i + 1)).get (heap (i + 1)).next w' -> Y0 ρ' (val i) mv -> Xc P ops n N env heap val wn S' ρ0 w0 (a.put o.dst mv) w' ρ' (i + 1) el := by
  intro mv ρ' w' he hs hv
  obtain ⟨rfl, RA⟩ := BK he
  have Gz : ∀ k, V3 P ops wn n S' (c + 1) k -> V3 P ops wn n S c k := fun k hk => by
   rcases back (c + 1) k (Nat.le_succ _) hk with h | h
   ·have := hk.2.1; omega
   ·exact h
  refine ⟨Vf, by omega, ?_, ?_, hM.step.trans hs, Vd ρ' mv (c + 1) hs.le (fun k hk => ?_) (.inl hv), fun k hk => ?_, fun j k hj hk => hM.Ax j k (Gz j hj) (Gz k hk), Lv (c + 1) (Nat.le_succ _), (Fc mv).1, (Fc mv).2, NZ⟩
  ·intro k q hk hq rL Oa
   rw [PS] at Oa
   by_cases Fe : k = c
   ·omega
   ·rw [if_neg Fe] at Oa
    have := hM.Je k q hk hq rL Oa
    omega
  ·intro k q hk hq sN R3
   rw [PS]
   by_cases Fe : k = c
   ·rw [if_pos Fe]
   ·rw [if_neg Fe]; exact RA k q (by omega) hq sN
  ·obtain ⟨e1, e2, e3⟩ := hk
   have : k ≠ c := fun e => by subst e; rw [hi] at e1; cases e1
   exact ⟨sj k e1, by omega, e3⟩
  ·have hE := hM.early k (Gz k hk)
   obtain ⟨obj, m, Rb, _, _, _, q4, _⟩ := hE.ex
   have EO : (el k).mb < w.heap.size := by
    rcases Nat.lt_or_ge (el k).mb w.heap.size with h | h
    ·exact h
    ·rw [Array.getElem?_eq_none h] at q4; cases q4
   refine hE.next hs.le (hs.old _ EO fun b l hb hl => absurd hl (hE.free b l hb)) (fun b l' hb hl => ?_) (fun q t hq hd => VY mv k (Gz k hk) q t hq hd)
   rcases hs.new b l' hb with h | ⟨_, h | ⟨b0, l0, k0, h1, h2, _⟩⟩
   ·exact hE.free b l' h hl
   ·omega
   ·exact hE.free b0 l0 h1 (h2.trans hl)
 unfold wpOp
 rw [ho]
 simp only [La]
 cases hw : wn i with
 | false =>
  simp only [Bool.false_eq_true, if_false]
  obtain ⟨hv, hh⟩ := qd hw
  cases he : S9 P o with
  | true =>
   refine hK _ w ρ (i + 1) el (after undef ρ w he ?_ (by rw [hv]; exact FJ ρ))
   obtain ⟨rfl, _⟩ := BK he
   rw [hh]; exact Step.refl hM.step.rel hM.step.wf
  | false => exact hK _ w ρ c el (aside undef he (fun h => by have := h.2.2.2.1; rw [hw] at this; cases this) (by rw [hv]; exact FJ ρ))
 | true =>
  simp only [if_true]
  left
  have hv := j4 hw
  have quiet : ∀ (kM : O5) (h hq : A0), CG P kM o (env i) h = some (val i, hq) -> Y1 P o = .pure \/ Y1 P o = .read ->
    (Y1 P o = .read -> ∀ b ob, ρ b ≠ none -> h.get b = some ob -> (heap c).get b = some ob) -> o.wp P a w K Q := by
   intro kM h hq K0 hk PR
   obtain ⟨_, mv, hr, U3⟩ := KK w hk K0 a mC hM.step.rel PR
   unfold Oper.wp
   rw [hr, Oper.upon_value]
   refine hK _ w ρ c el (aside mv (by unfold S9; rcases hk with hk | hk <;> simp [hk]) (fun h => ?_) U3)
   obtain ⟨o', CV, Wz⟩ := h.2.2.2.2
   rw [ho] at CV; simp only [U0] at CV; subst CV
   unfold M5 at Wz
   rcases hk with hk | hk <;> simp [hk] at Wz
  cases hk : Y1 P o with
  | pure => exact quiet call _ _ hv (.inl hk) (fun h => by rw [hk] at h; cases h)
  | EV =>
   have he : S9 P o = true := by simp [S9, hk]
   obtain ⟨ca, _⟩ := BK he
   refine jY U6 hv mC (by rw [<- ca]; exact hM.step.rel) (by rw [<- ca]; exact hM.step.wf) (by rw [<- ca]; exact hM.step.gd hG) K Q fun mv ρ' w' E3 U3 => ?_
   exact hK _ w' ρ' (i + 1) el (after mv ρ' w' he E3 U3)
  | alloc =>
   have Y3 : S9 P o = false := by simp [S9, hk]
   have im : M5 P o = true := by simp [M5, hk]
   have ca : c <= i := by
    rcases Nat.lt_or_ge i c with h | h
    ·have := hM.chain i o U8 ho im h
     rw [hi] at this; cases this
    ·exact h
   obtain ⟨obj, m, w', mv, l, q1, qf, hN, hl, B2, CW, U3⟩ := Kp w hk hv a mC
   unfold Oper.wp
   rw [qf, Oper.upon_value]
   have yA : V3 P ops wn n S' c i := ⟨by rw [PS, if_pos rfl], ca, U8, hw, o, ho, im⟩
   have R3 : ∀ k, V3 P ops wn n S c k -> (el k).mb < w.heap.size := by
    intro k hk
    obtain ⟨obj, m, Rb, _, _, _, q4, _⟩ := (hM.early k hk).ex
    rcases Nat.lt_or_ge (el k).mb w.heap.size with h | h
    ·exact h
    ·rw [Array.getElem?_eq_none h] at q4; cases q4
   have Ka : ∀ k, k ≠ i -> (if k = i then l else el k) = el k := fun k hk => if_neg hk
   have qR : ∀ k, V3 P ops wn n S c k -> k ≠ i := fun k hk e => by have h1 := hk.1; rw [e, hi] at h1; cases h1
   refine hK _ w' ρ c (fun k => if k = i then l else el k) ⟨Vf, hM.cn, ?_, fun k q hk hq hc R3 => sj k (hM.chain k q hk hq hc R3), ?_, Vd ρ mv c (Ren.le.refl ρ) stay (.inr yA), fun k hk => ?_, fun j k hj hk uM => ?_, Lv c (Nat.le_refl _), (Fc mv).1, (Fc mv).2, NZ⟩
   ·intro k q hk hq he hs
    rw [PS] at hs
    by_cases Fe : k = i
    ·subst Fe; rw [ho] at hq; simp only [U0] at hq; subst hq; rw [Y3] at he; cases he
    ·rw [if_neg Fe] at hs; exact hM.Je k q hk hq he hs
   ·exact hM.step.trans ⟨hM.step.rel, hM.step.rel.world hN.old, hM.step.wf, Ren.le.refl ρ, Nat.le_refl _, hN.os, hN.tape, hN.output, by rw [hN.size]; omega, fun B hB _ => hN.old B hB, fun _ _ h => .inl h, fun _ k h => ⟨k, h, rfl⟩, fun _ es h => ⟨es, h⟩⟩
   ·rcases back c k (Nat.le_refl _) hk with h | h
    ·subst h
     simp only [if_true]
     refine ⟨⟨obj, m, mv, q1, fun q hq => (CW q hq).1, B2, by rw [hl]; exact hN.at_, U3, fun q t hq hd => ?_⟩, by rw [hl]; exact hM.step.size, fun b l' hb => ?_⟩
     ·rw [ho] at hq; simp only [U0] at hq; subst hq
      have uK : t < a.tmps.size := by rw [hM.size]; exact JW k o ho t hd
      rw [hd]
      simp [Act.put, uK]
     ·have := hM.step.rel.lt hb
      omega
    ·simp only [Ka k (qR k h)]
     exact (hM.early k h).next (Ren.le.refl ρ) (hN.old _ (R3 k h)) (hM.early k h).free (fun q t hq hd => VY mv k h q t hq hd)
   ·rcases back c j (Nat.le_refl _) hj with h1 | h1 <;> rcases back c k (Nat.le_refl _) hk with h2 | h2
    ·omega
    ·subst h1
     simp only [if_true, Ka k (qR k h2)]
     have := R3 k h2
     omega
    ·subst h2
     simp only [if_true, Ka j (qR j h1)]
     have := R3 j h1
     omega
    ·simp only [Ka j (qR j h1), Ka k (qR k h2)]
     exact hM.Ax j k h1 h2 uM
  | read =>
   
   have low : ∀ b, ρ b ≠ none -> ∃ ob, (heap c).get b = some ob := by
    intro b hb
    cases hρ : ρ b with
    | none => exact absurd hρ hb
    | some l => obtain ⟨ob, TD, _⟩ := hM.step.rel.obj b l hρ; exact ⟨ob, TD⟩
   have PZ : ∀ j, (∀ b ob, (heap c).get b = some ob -> (heap j).get b = some ob) -> ∀ b ob, ρ b ≠ none -> (heap j).get b = some ob -> (heap c).get b = some ob := by
    intro j hg b ob hb hj
    obtain ⟨o2, Od⟩ := low b hb
    have := hg b o2 Od
    rw [hj] at this
    simp only [U0] at this
    rw [this]; exact Od
   by_cases ca : c <= i
   ·by_cases hex : ∃ k p, c <= k /\ k < i /\ ops[k]? = some p /\ wn k = true /\ Y1 P p = .EV
    · 
     obtain ⟨k, El, U9, rB⟩ : ∃ k, (∃ p, c <= k /\ k < i /\ ops[k]? = some p /\ wn k = true /\ Y1 P p = .EV) /\ True /\ ∀ j, j < k -> ¬ ∃ p, c <= j /\ j < i /\ ops[j]? = some p /\ wn j = true /\ Y1 P p = .EV := by
      obtain ⟨k, hk⟩ := hex
      induction k using Nat.strongRecOn with
      | _ k ih =>
       by_cases jv : ∃ j, j < k /\ ∃ p, c <= j /\ j < i /\ ops[j]? = some p /\ wn j = true /\ Y1 P p = .EV
       ·obtain ⟨j, uM, hj⟩ := jv
        exact ih j uM hj
       ·exact ⟨k, hk, trivial, fun j hj h => jv ⟨j, hj, h⟩⟩
     obtain ⟨p, rR, Fe, hp, tf, UD⟩ := El
     have cL : ((Region.before ops).getD i 0).testBit k = false := by
      cases hb : ((Region.before ops).getD i 0).testBit k with
      | false => rfl
      | true =>
       rcases y6 TK hb (.inr rfl) with h | h
       ·have := hM.Je k p (by omega) hp (by simp [S9, UD]) h
        omega
       ·omega
     rcases tr.early k i p o (Nat.zero_le _) Fe U8 hp ho tf hw hk UD with h | h
     ·rw [cL] at h; cases h
     ·obtain ⟨hq, tn⟩ := KJ h
      refine quiet _ _ _ tn (.inr hk) (fun _ => PZ k (EP tr hn c k rR (by omega) (fun j q h1 h2 Zb ZX he => rB j h2 ⟨q, h1, by omega, Zb, ZX, he⟩)))
    ·exact quiet call _ _ hv (.inr hk) (fun _ => PZ i (EP tr hn c i ca (by omega) (fun j q h1 h2 Zb ZX he => hex ⟨j, q, h1, h2, Zb, ZX, he⟩)))
   ·have hic : i < c := by omega
    by_cases hex : ∃ k p, i < k /\ k < c /\ ops[k]? = some p /\ wn k = true /\ Y1 P p = .EV
    · 
     obtain ⟨k, El, rC⟩ : ∃ k, (∃ p, i < k /\ k < c /\ ops[k]? = some p /\ wn k = true /\ Y1 P p = .EV) /\ ∀ j, k < j -> ¬ ∃ p, i < j /\ j < c /\ ops[j]? = some p /\ wn j = true /\ Y1 P p = .EV := by
      obtain ⟨k, hk⟩ := hex
      have key : ∀ m k, c - k = m -> (∃ p, i < k /\ k < c /\ ops[k]? = some p /\ wn k = true /\ Y1 P p = .EV) ->
        ∃ k, (∃ p, i < k /\ k < c /\ ops[k]? = some p /\ wn k = true /\ Y1 P p = .EV) /\ ∀ j, k < j -> ¬ ∃ p, i < j /\ j < c /\ ops[j]? = some p /\ wn j = true /\ Y1 P p = .EV := by
       intro m
       induction m using Nat.strongRecOn with
       | _ m ih =>
        intro k hm hk
        by_cases jt : ∃ j, k < j /\ ∃ p, i < j /\ j < c /\ ops[j]? = some p /\ wn j = true /\ Y1 P p = .EV
        ·obtain ⟨j, jx, p, hj⟩ := jt
         exact ih (c - j) (by omega) j rfl ⟨p, hj⟩
        ·exact ⟨k, hk, fun j hj h => jt ⟨j, hj, h⟩⟩
      exact key (c - k) k rfl hk
     obtain ⟨p, xY, rD, hp, tf, UD⟩ := El
     have rO := hM.cn
     have Zf : S k = true := hM.chain k p (by omega) hp (by simp [M5, UD]) rD
     have cL : ((Region.before ops).getD k 0).testBit i = false := by
      cases hb : ((Region.before ops).getD k 0).testBit i with
      | false => rfl
      | true =>
       have : S i = true := y6 hM.down hb Zf
       rw [hi] at this; cases this
     rcases tr.late i k o p (Nat.zero_le _) xY (by omega) ho hp hw tf UD hk with h | h
     ·rw [cL] at h; cases h
     ·obtain ⟨hq, tn⟩ := KJ h
      refine quiet _ _ _ tn (.inr hk) (fun _ b ob _ TD => EP tr hn (k + 1) c (by omega) hM.cn (fun j q h1 h2 Zb ZX he => rC j (by omega) ⟨q, by omega, h2, Zb, ZX, he⟩) b ob TD)
    ·have hh : heap (i + 1) = heap i := EA (.inr hk) hv
     exact quiet call _ _ hv (.inr hk) (fun _ b ob _ TD => EP tr hn (i + 1) c (by omega) hM.cn (fun j q h1 h2 Zb ZX he => hex ⟨j, q, by omega, h2, Zb, ZX, he⟩) b ob (by rw [hh]; exact TD))
theorem dD (I5 : AM P ops = true) (U6 : Hm P call) {N : Nat} (JW : ∀ (k : Nat) (o : Oper), ops[k]? = some o -> ∀ d, o.dst = some d -> d < N) (tr : Trace P call ops (Region.before ops) 0 n env heap val wn) (hn : n = ops.size)
  {ρ0 : Ren} {w0 : World} (hG : Gd ρ0 (heap 0).get w0) (Q : Exit -> Act -> World -> Prop)
  (hQ : ∀ ρ' a' w', Step ρ0 (heap 0).get (heap 0).next w0 ρ' (heap n).get (heap n).next w' -> Zj ρ' N (env n) a' -> Q .normal a' w') :
  ∀ (fuel : Nat) (Z4 : Array Bool) (a : Act) (w : World) (ρ : Ren) (c : Nat) (el : Nat -> Loc), Z4.size = n -> FC (fun k => Z4.getD k false) n <= fuel -> Xc P ops n N env heap val wn (fun k => Z4.getD k false) ρ0 w0 a w ρ c el ->
   wpAny P .any ops Q fuel Z4 a w := by
 
 have finish : ∀ (Z4 : Array Bool) (a : Act) (w : World) (ρ : Ren) (c : Nat) (el : Nat -> Loc), (∀ k, k < n -> Z4.getD k false = true) -> Xc P ops n N env heap val wn (fun k => Z4.getD k false) ρ0 w0 a w ρ c el -> Q .normal a w := by
  intro Z4 a w ρ1 c1 el X7 uz
  obtain ⟨ρ, c, hM, iV⟩ := uz.top tr hn n c1 ρ1 (by omega)
  have rO : c = n := by
   rcases Nat.lt_or_ge c n with h | h
   ·obtain ⟨o, _, _, h3⟩ := iV h
    simp only [X7 c h] at h3
    cases h3
   ·have := hM.cn; omega
  have J6 := hM.step
  rw [rO] at J6
  refine hQ ρ a w J6 ⟨⟨fun t => ?_⟩, hM.size, hM.defers⟩
  have h1 := hM.env t (fun k hk => by obtain ⟨_, e2, e3, _⟩ := hk; omega)
  have h2 : ∀ k, k <= n -> D9 ops val (fun k => Z4.getD k false) (env 0) k t = D9 ops val (fun _ => true) (env 0) k t := by
   intro k
   induction k with
   | zero => intro _; rfl
   | succ k ih => intro hk; simp only [D9, X7 k (by omega), ih (by omega)]
  rw [h2 n (Nat.le_refl _), <- RE tr hn n (Nat.le_refl _) t] at h1
  exact h1
 have VL : ∀ (Z4 : Array Bool), Z4.size = n -> Region.ready .any ops Z4 = [] -> ∀ k, k < n -> Z4.getD k false = true := by
  intro Z4 EO hr k
  induction k using Nat.strongRecOn with
  | _ k ih =>
   intro hk
   cases hl : Z4.getD k false with
   | true => rfl
   | false =>
    exfalso
    obtain ⟨o, ho⟩ : ∃ o, ops[k]? = some o := ⟨ops[k]'(by omega), Array.getElem?_eq_getElem (by omega)⟩
    have : k ∈ Region.ready .any ops Z4 := mem_ready.2 ⟨getD_in (by omega) hl, o, ho, fun e he hb => by
     have R3 := TW I5 ho he hb
     exact ih e.on R3 (by omega)⟩
    rw [hr] at this
    cases this
 intro fuel
 induction fuel with
 | zero =>
  intro Z4 a w ρ c el EO hu hM
  have X7 := Lu n (by omega : FC (fun k => Z4.getD k false) n = 0)
  refine ⟨?_, finish Z4 a w ρ c el X7 hM⟩
  cases hr : Region.ready .any ops Z4 with
  | nil => rfl
  | cons i rest =>
   exfalso
   obtain ⟨h1, o, ho, _⟩ := mem_ready.1 (show i ∈ Region.ready .any ops Z4 by rw [hr]; simp)
   have hi : i < n := by rw [hn]; exact (Array.getElem?_eq_some_iff.1 ho).1
   have := X7 i hi
   simp [Array.getD_eq_getD_getElem?, Array.getElem?_eq_getElem (show i < Z4.size by omega)] at h1 this
   rw [h1] at this; cases this
 | succ fuel ih =>
  intro Z4 a w ρ c el EO hu hM
  refine ⟨fun hr => finish Z4 a w ρ c el (VL Z4 EO hr) hM, fun i hi => ?_⟩
  obtain ⟨h1, o, ho, X7⟩ := mem_ready.1 hi
  have U8 : i < n := by rw [hn]; exact (Array.getElem?_eq_some_iff.1 ho).1
  have hl : Z4.getD i false = false := getD_both h1
  have PS : ∀ k, (Z4.setIfInBounds i true).getD k false = if k = i then true else Z4.getD k false := by
   intro k
   by_cases Fe : k = i
   ·subst Fe; simp [Array.getD_eq_getD_getElem?, show k < Z4.size by omega]
   ·rw [if_neg Fe]; exact getD_set_ne false (Ne.symm Fe)
  refine bc I5 U6 JW tr hn hM hG ho hl (fun e he hb => X7 e he hb) PS Q _ fun a' w' ρ' c' vM rV => ?_
  refine ih _ a' w' ρ' c' vM (by simpa using EO) ?_ rV
  have := Ov (S := fun k => Z4.getD k false) (S' := fun k => (Z4.setIfInBounds i true).getD k false) hl PS n
  rw [if_pos U8] at this
  omega
end
end Go.Proofs.Ythlbahcggmbfaaa.V
namespace Go.Proofs.Ythlbahcggmbfaaa.V
open Go.RowKit
section
variable {P : Program}
def l8 (N : Nat) : Code -> Bool
 | .region _ ops _ => ops.toList.all fun o => match o.dst with | some d => Nat.blt d N | none => true
 | .seq a b | .cond _ a b => l8 N a && l8 N b
 | .block _ c | .loop c | .scope c => l8 N c
 | .rangeFunc _ _ a c => l8 N a && l8 N c
 | _ => true
def QR (P : Program) : Bool := P.funcs.toList.all fun fn => match fn.body with | some c => l8 fn.ntmps c | none => true
def Y2.out : Y2 -> Exit
 | .normal => .normal
 | .exit id => .exit id
 | .ret => .ret
theorem Xh {c : Code} {Q : Exit -> Act -> World -> Prop} (J : Nat -> Act -> World -> Prop)
  (round : ∀ n a w, J n a w -> c.wp P (Exit.then (fun a' w' => ∃ m, m < n /\ J m a' w') Q) a w) (n : Nat) (a : Act) (w : World) (h : J n a w) : (Code.loop c).wp P Q a w := by
 intro b k cs
 have key : ∀ n a w, J n a w -> ∃ e a' w', Q e a' w' /\ Arrives P (lone (b.at a (.code c :: .inLoop c :: k)) cs w) b k cs e a' w' := by
  intro n
  induction n using Nat.strongRecOn with
  | _ n ih =>
   intro a w hJ
   obtain ⟨e, a₁, w₁, hq, TM⟩ := round n a w hJ b (.inLoop c :: k) cs
   cases e with
   | normal =>
    obtain ⟨m, R3, rW⟩ := hq
    obtain ⟨e₂, a₂, w₂, qj, ir⟩ := ih m R3 a₁ w₁ rW
    exact ⟨e₂, a₂, w₂, qj, .of_steps (Steps.trans TM (.one step_inLoop)) ir⟩
   | exit id => exact ⟨_, a₁, w₁, hq, .pass (x := .inLoop c) rfl (fun _ _ => .inl (by simp)) TM⟩
   | goto l => exact ⟨_, a₁, w₁, hq, .pass (x := .inLoop c) rfl (fun _ _ => .inl (by simp)) TM⟩
   | ret => exact ⟨_, a₁, w₁, hq, .pass (x := .inLoop c) rfl (fun _ _ => .inl (by simp)) TM⟩
   | panic ch => exact ⟨_, a₁, w₁, hq, .pass (x := .inLoop c) rfl (fun _ _ => .inl (by simp)) TM⟩
   | outgrown => exact ⟨_, a₁, w₁, hq, .pass (x := .inLoop c) rfl (fun _ _ => .inl (by simp)) TM⟩
 obtain ⟨e, a', w', hq, TM⟩ := key n a w h
 exact ⟨e, a', w', hq, .of_steps (.one step_loop) TM⟩
theorem YK (Oe : P.follows .mixedOrders = true) {call : O5} (U6 : Hm P call) {ops : Array Oper} {draw : Bool} {id N : Nat} {e e' : Env} {h h' : A0} (K0 : Cn P call ops draw e h = some (e', h'))
  (JW : ∀ (k : Nat) (o : Oper), ops[k]? = some o -> ∀ d, o.dst = some d -> d < N) {ρ : Ren} {a : Act} {w : World} (hF : Zj ρ N e a) (hR : Rel ρ h.get w) (hw : WF h.get h.next) (hG : Gd ρ h.get w) (Q : Exit -> Act -> World -> Prop)
  (hQ : ∀ ρ' a' w', Step ρ h.get h.next w ρ' h'.get h'.next w' -> Zj ρ' N e' a' -> Q .normal a' w') : (Code.region id ops draw).wp P Q a w := by
 unfold Cn at K0
 cases draw with
 | false =>
  simp only at K0
  refine wp_region_list (Pv U6 Q _ e e' h h' ρ a w K0 (fun o ho d hd => ?_) hF hR hw hG hQ)
  obtain ⟨k, hk⟩ := List.getElem?_of_mem ho
  exact JW k o (by simpa using hk) d hd
 | true =>
  simp only at K0
  cases I5 : AM P ops with
  | false => rw [I5] at K0; cases K0
  | true =>
   rw [I5] at K0
   simp only at K0
   obtain ⟨env, heap, val, wn, e0, e1, e2, e3, tr, _, _⟩ := Jr ops.toList 0 e e' h h' [] [] K0 (fun k => by simp)
   simp only [Nat.zero_add, Array.length_toList] at e2 e3 tr
   refine wp_region_any Oe ?_
   refine dD I5 U6 JW tr rfl (ρ0 := ρ) (w0 := w) (by rw [e1]; exact hG) Q (fun ρ' a' w' hs hf => hQ ρ' a' w' ?_ ?_) ops.size _ a _ ρ 0 (fun _ => ⟨0, 0, 0, 0, false⟩) (by simp) ?_ ?_
   ·rw [e1, e3] at hs; exact hs
   ·rw [e2] at hf; exact hf
   ·have : ∀ n, FC (fun k => (Array.replicate ops.size false).getD k false) n <= n := by
     intro n
     induction n with
     | zero => exact Nat.le_refl _
     | succ n ih => simp only [FC]; split <;> omega
    exact this _
   ·have hS : ∀ k, (Array.replicate ops.size false).getD k false = false := fun k => getD_replicate_false ops.size k
    have ue : ∀ n t, D9 ops val (fun k => (Array.replicate ops.size false).getD k false) (env 0) n t = (env 0).get t := by
     intro n t
     induction n with
     | zero => rfl
     | succ n ih => simp only [D9]; rw [if_neg (fun hh => by have := hh.1; rw [hS] at this; cases this)]; exact ih
    have hE : ∀ k, ¬ V3 P ops wn ops.size (fun k => (Array.replicate ops.size false).getD k false) 0 k := fun k hk => by have := hk.1; simp only [hS] at this; cases this
    refine ⟨fun j o hj => ?_, Nat.zero_le _, fun k o _ _ _ hk => ?_, fun k o _ _ _ hk => by omega, ?_, fun t _ => ?_, fun k hk => absurd hk (hE k), fun j k hj => absurd hj (hE j), fun k hk => absurd hk (hE k), hF.size, hF.defers, fun k _ => hS k⟩
    ·simp only [hS] at hj; cases hj
    ·simp only [hS] at hk; cases hk
    ·rw [e1]; exact (Step.refl hR hw).drew
    ·rw [ue, e0]; exact hF.rel.at_ t
def RU (P : Program) (X : Ext) : Prop := ∀ f g, X f = some g -> ∀ args h v h', g args h = some (v, h') -> OI P f args h v h'
theorem XF (Oe : P.follows .mixedOrders = true) {X : Ext} : ∀ (k : Nat), (∀ j, j < k -> Hm P (Ge P (B4 P X j) X)) -> ∀ (c : Code) (N : Nat) (e e' : Env) (h h' : A0) (x : Y2),
  B4 P X k c e h = some (x, e', h') -> l8 N c = true -> ∀ (ρ : Ren) (a : Act) (w : World), Zj ρ N e a -> Rel ρ h.get w -> WF h.get h.next -> Gd ρ h.get w -> ∀ Q : Exit -> Act -> World -> Prop,
   (∀ ρ' a' w', Step ρ h.get h.next w ρ' h'.get h'.next w' -> Zj ρ' N e' a' -> Q x.out a' w') -> c.wp P Q a w := by
 intro k
 induction k using Nat.strongRecOn with
 | _ k IH =>
 cases k with
 | zero => intro _ c N e e' h h' x K0; simp [B4] at K0
 | succ k =>
  intro Vg c N e e' h h' x K0 hd ρ a w hF hR hw hG Q hQ
  have ih := IH k (Nat.lt_succ_self k) (fun j hj => Vg j (by omega))
  have same : ∀ {y : Y2} {e1 : Env} {h1 : A0}, some (y, e1, h1) = some (x, e', h') -> y = x /\ e1 = e' /\ h1 = h' := by
   intro y e1 h1 he
   simp only [U0, Prod.mk.injEq] at he
   exact he
  cases c with
  | skip =>
   obtain ⟨rfl, rfl, rfl⟩ := same K0
   exact wp_skip (hQ ρ a w (Step.refl hR hw) hF)
  | label l =>
   obtain ⟨rfl, rfl, rfl⟩ := same K0
   exact wp_label (hQ ρ a w (Step.refl hR hw) hF)
  | exit id =>
   obtain ⟨rfl, rfl, rfl⟩ := same K0
   exact wp_exit (hQ ρ a w (Step.refl hR hw) hF)
  | ret =>
   obtain ⟨rfl, rfl, rfl⟩ := same K0
   exact wp_ret (hQ ρ a w (Step.refl hR hw) hF)
  | region id ops draw =>
   simp only [B4] at K0
   split at K0
   ·rename_i e1 h1 hr
    obtain ⟨rfl, rfl, rfl⟩ := same K0
    refine YK Oe (Vg k (Nat.lt_succ_self k)) hr (fun j o ho d tz => ?_) hF hR hw hG Q hQ
    simp only [l8] at hd
    have := List.all_eq_true.1 hd o (by simpa using Array.mem_of_getElem? ho)
    rw [tz] at this
    exact Nat.lt_of_lt_of_le (Nat.lt_succ_self _) (Nat.le_of_ble_eq_true this)
   ·cases K0
  | seq c1 c2 =>
   simp only [l8, Bool.and_eq_true] at hd
   simp only [B4] at K0
   split at K0
   ·rename_i e1 h1 hr
    refine wp_seq (ih c1 N e e1 h h1 .normal hr hd.1 ρ a w hF hR hw hG _ fun ρ1 a1 w1 hs hf => ?_)
    exact ih c2 N e1 e' h1 h' x K0 hd.2 ρ1 a1 w1 hf hs.rel hs.wf (hs.gd hG) Q fun ρ2 a2 w2 tk mP => hQ ρ2 a2 w2 (hs.trans tk) mP
   ·rename_i Y3
    refine wp_seq (ih c1 N e e' h h' x K0 hd.1 ρ a w hF hR hw hG _ fun ρ1 a1 w1 hs hf => ?_)
    cases x with
    | normal => exact absurd K0 (Y3 _ _)
    | exit id => exact hQ ρ1 a1 w1 hs hf
    | ret => exact hQ ρ1 a1 w1 hs hf
  | cond y c1 c2 =>
   simp only [l8, Bool.and_eq_true] at hd
   simp only [B4] at K0
   have hy := cy hF.rel y
   split at K0
   ·rename_i he
    rw [he] at hy
    generalize hm : a.eval y = m at hy
    cases hy
    exact wp_cond_true hm (ih c1 N e e' h h' x K0 hd.1 ρ a w hF hR hw hG Q hQ)
   ·rename_i he
    rw [he] at hy
    generalize hm : a.eval y = m at hy
    cases hy
    exact wp_cond_false hm (ih c2 N e e' h h' x K0 hd.2 ρ a w hF hR hw hG Q hQ)
   ·cases K0
  | block id c =>
   simp only [l8] at hd
   simp only [B4] at K0
   split at K0
   ·rename_i jf e1 h1 hr
    refine wp_block (ih c N e e1 h h1 (.exit jf) hr hd ρ a w hF hR hw hG _ fun ρ1 a1 w1 hs hf => ?_)
    split at K0
    ·rename_i UI
     have UI := B6 UI
     obtain ⟨rfl, rfl, rfl⟩ := same K0
     simp only [Y2.out, Exit.inBlock, UI, if_true]
     exact hQ ρ1 a1 w1 hs hf
    ·rename_i UI
     have UI := Nat.ne_of_beq_eq_false UI
     obtain ⟨rfl, rfl, rfl⟩ := same K0
     simp only [Y2.out, Exit.inBlock, UI, if_false]
     exact hQ ρ1 a1 w1 hs hf
   ·rename_i Y3
    refine wp_block (ih c N e e' h h' x K0 hd ρ a w hF hR hw hG _ fun ρ1 a1 w1 hs hf => ?_)
    cases x with
    | normal => exact hQ ρ1 a1 w1 hs hf
    | exit jf => exact absurd K0 (Y3 _ _ _)
    | ret => exact hQ ρ1 a1 w1 hs hf
  | loop c =>
   simp only [l8] at hd
   refine Xh (fun n a1 w1 => n <= k + 1 /\ ∃ e1 h1 ρ1, B4 P X n (.loop c) e1 h1 = some (x, e', h') /\ Zj ρ1 N e1 a1 /\ Step ρ h.get h.next w ρ1 h1.get h1.next w1) ?_ (k + 1) a w
    ⟨Nat.le_refl _, e, h, ρ, K0, hF, Step.refl hR hw⟩
   rintro n a1 w1 ⟨hn, e1, h1, ρ1, Yj, xz, Rd⟩
   cases n with
   | zero => simp [B4] at Yj
   | succ n =>
    simp only [B4] at Yj
    have vc := fun (e2 : Env) (h2 : A0) (y : Y2) (hr : B4 P X n c e1 h1 = some (y, e2, h2)) =>
     IH n (by omega) (fun j hj => Vg j (by omega)) c N e1 e2 h1 h2 y hr hd ρ1 a1 w1 xz Rd.rel Rd.wf (Rd.gd hG)
    split at Yj
    ·rename_i e2 h2 hr
     refine vc e2 h2 .normal hr _ fun ρ2 a2 w2 hs hf => ?_
     exact ⟨n, Nat.lt_succ_self n, by omega, e2, h2, ρ2, Yj, hf, Rd.trans hs⟩
    ·rename_i Y3
     refine vc e' h' x Yj _ fun ρ2 a2 w2 hs hf => ?_
     cases x with
     | normal => exact absurd Yj (Y3 _ _)
     | exit id => exact hQ ρ2 a2 w2 (Rd.trans hs) hf
     | ret => exact hQ ρ2 a2 w2 (Rd.trans hs) hf
  | rangeFunc f p x1 y => simp [B4] at K0
  | scope c => simp [B4] at K0
  | goto l => simp [B4] at K0
  | refuse s => simp [B4] at K0
theorem VR {t : TypeId} {a : Addr} {w : World} {mv : Value} (h : (Instr.loadAt t (.pointer (some a))).run P w = .ok mv w) : (loadVar t a).run P w = .ok mv w := by
 simpa [Instr.loadAt, Instr.sureAddr] using h
def YI (tmps : Array Value) : ResultVar -> Sem Value
 | .tmp t => pure (tmps.getD t undef)
 | .cell a t => do loadVar t (<- asAddr (tmps.getD a undef))
theorem Ur (fn : Func) (tmps : Array Value) : results fn tmps = (do
  let vs <- fn.results.mapM (YI tmps)
  pure (if h : vs.size = 1 then vs[0] else .tuple vs)) := by
 have : (fun r => match r with | ResultVar.tmp t => (pure (tmps.getD t undef) : Sem Value) | ResultVar.cell a t => do loadVar t (<- asAddr (tmps.getD a undef))) = YI tmps := by
  funext r; cases r <;> rfl
 unfold results
 rw [<- this]
 rfl
theorem Gn {fn : Func} {e : Env} {h : A0} {v : VV} (K0 : CF P fn e h = some v) {ρ : Ren} {a : Act} {w : World} (hE : RW ρ e a.tmps) (hR : Rel ρ h.get w) :
  ∃ mv, (results fn a.tmps).run P w = .ok mv w /\ Y0 ρ v mv := by
 unfold CF at K0
 have key : ∀ (l : List ResultVar) (vs : List VV), l.mapM (Fy P e h) = some vs ->
   ∃ ms : List Value, (l.mapM (YI a.tmps)).run P w = .ok ms w /\ P2 ρ vs ms := by
  intro l
  induction l with
  | nil => intro vs Gr; simp at Gr; subst Gr; exact ⟨[], by simp, P2.nil ρ⟩
  | cons r l ih =>
   intro vs Gr
   simp only [List.mapM_cons, Option.bind_eq_bind, Option.bind_eq_some_iff, Option.pure_def, U0] at Gr
   obtain ⟨v, hv, so, ti, rfl⟩ := Gr
   obtain ⟨ms, Dj, U3⟩ := ih so ti
   cases r with
   | tmp t =>
    simp only [Fy, U0] at hv; subst hv
    refine ⟨a.tmps.getD t undef :: ms, ?_, P2.cons (hE.at_ t) U3⟩
    simp only [List.mapM_cons, YI, Sem.run_bind, Sem.run_pure, Result.andThen_ok, Dj]
   | cell x t =>
    simp only [Fy] at hv
    have hx := hE.at_ x
    cases jg : e.get x <;> rw [jg] at hv <;> (try (simp [AY] at hv; done))
    rw [jg] at hx
    obtain ⟨mv, OM, hr⟩ := Jq hv hx hR (fun _ _ _ h => h)
    refine ⟨mv :: ms, ?_, P2.cons hr U3⟩
    simp only [List.mapM_cons, YI]
    generalize a.tmps.getD x undef = ma at hx OM ⊢
    cases hx
    simp only [Sem.run_bind, asAddr, Sem.run_pure, Result.andThen_ok, VR OM, Dj]
 have run : ∀ ms : List Value, (fn.results.toList.mapM (YI a.tmps)).run P w = .ok ms w ->
   (results fn a.tmps).run P w = .ok (if hs : ms.toArray.size = 1 then ms.toArray[0] else .tuple ms.toArray) w := by
  intro ms Dj
  rw [Ur, Array.mapM_eq_mapM_toList]
  simp only [Sem.run_bind, Sem.run_map, Dj, Result.andThen_ok, Sem.run_pure]
 split at K0
 ·rename_i v0 Gr
  simp only [U0] at K0; subst K0
  obtain ⟨ms, Dj, U3⟩ := key _ _ Gr
  obtain ⟨v', x', rfl, KW, Bf⟩ := U3.of_cons
  have hn := Bf.of_nil
  subst hn
  exact ⟨v', by rw [run _ Dj]; simp, KW⟩
 ·rename_i vs Y3 Gr
  simp only [U0] at K0; subst K0
  obtain ⟨ms, Dj, U3⟩ := key _ _ Gr
  refine ⟨.tuple ms.toArray, ?_, Y0.K8 (by simpa using U3)⟩
  rw [run _ Dj, dif_neg]
  intro h1
  have hl : vs.length = 1 := by rw [U3.1]; simpa using h1
  match vs, hl with
  | [v0], _ => exact Y3 v0 rfl
 ·cases K0
theorem Yv (Oe : P.follows .mixedOrders = true) (JW : QR P = true) {X : Ext} (hX : RU P X) : ∀ k, Hm P (Ge P (B4 P X k) X) := by
 intro k
 induction k using Nat.strongRecOn with
 | _ k IH =>
 intro f args h v h' K0
 unfold Ge at K0
 split at K0
 ·rename_i g hg
  exact hX f g hg args h v h' K0
 ·split at K0
  ·rename_i fn hf
   split at K0
   ·rename_i c hc
    split at K0
    ·rename_i hlen
     intro ρ w Cv hR hw U3 hG
     have hd : l8 fn.ntmps c = true := by
      have := List.all_eq_true.1 JW fn (by simpa using Array.mem_of_getElem? hf)
      rw [hc] at this; exact this
     have TI : Cv.length = args.length := U3.1.symm
     have hF : Zj ρ fn.ntmps args { tmps := Cv.toArray ++ Array.replicate (fn.ntmps - Cv.toArray.size) undef, defers := [] } := by
      refine ⟨⟨fun t => ?_⟩, by simp; omega, rfl⟩
      by_cases ht : t < args.length
      ·have h1 : args[t]? = some args[t] := List.getElem?_eq_getElem ht
       obtain ⟨mv, h2, h3⟩ := U3.at h1
       have e1 : Env.get args t = args[t] := by simp [Env.get, List.getD, h1]
       rw [e1]
       have e2 : (Cv.toArray ++ Array.replicate (fn.ntmps - Cv.toArray.size) undef).getD t undef = mv := by
        rw [Array.getD_eq_getD_getElem?, Array.getElem?_append_left (by simp; omega)]
        simp [h2]
       rw [e2]; exact h3
      ·have e1 : Env.get args t = .undef := by simp [Env.get, List.getD, List.getElem?_eq_none (Nat.le_of_not_lt ht)]
       rw [e1]; exact .undef _
     refine calls_of_wp hf hc ?_
     split at K0
     ·rename_i e1 h1 hex
      simp only [Option.map_eq_some_iff, Prod.mk.injEq] at K0
      obtain ⟨v0, oU, rfl, rfl⟩ := K0
      refine XF Oe k (fun j hj => IH j hj) c fn.ntmps args e1 h h1 .normal hex hd ρ _ w hF hR hw hG _ fun ρ1 a1 w1 hs Wv => ?_
      obtain ⟨mv, hm, hr⟩ := Gn oU Wv.rel hs.rel
      exact ⟨Wv.defers, mv, hm, mv, ρ1, rfl, hs, hr⟩
     ·rename_i e1 h1 hex
      simp only [Option.map_eq_some_iff, Prod.mk.injEq] at K0
      obtain ⟨v0, oU, rfl, rfl⟩ := K0
      refine XF Oe k (fun j hj => IH j hj) c fn.ntmps args e1 h h1 .ret hex hd ρ _ w hF hR hw hG _ fun ρ1 a1 w1 hs Wv => ?_
      obtain ⟨mv, hm, hr⟩ := Gn oU Wv.rel hs.rel
      exact ⟨Wv.defers, mv, hm, mv, ρ1, rfl, hs, hr⟩
     ·cases K0
    ·cases K0
   ·cases K0
  ·cases K0
theorem YF (Oe : P.follows .mixedOrders = true) (JW : QR P = true) {X : Ext} (hX : RU P X) {k : Nat} {f : FuncId} {args : List VV} {h h' : A0} {v : VV} (K0 : Zl P X k f args h = some (v, h')) :
  OI P f args h v h' := Yv Oe JW hX k f args h v h' K0
end
end Go.Proofs.Ythlbahcggmbfaaa.V
namespace Go.Proofs.Ythlbahcggmbfaaa.V
open Go.RowKit Go.ChangeShapes Go.WideShapes
inductive FT where
 | bool
 | int (k : IntKind)
 | str
 | row (bytes : Nat) (es : List FT)
 
 | ptr (es : List FT)
 
 | EN (ts : List Nat) (es : List FT)
 deriving Inhabited
section
variable (P : Program)
def Rz : List Field -> List (List FT) -> Nat -> Nat -> Bool
 | [], [], o, ss => Nat.beq o ss
 | f :: fs, l :: ls, o, ss => Nat.beq f.offset o && Nat.beq l.length (P.cellsOf f.type) && Rz fs ls (o + l.length) ss
 | _, _, _, _ => false
def flat : Nat -> TypeId -> Option (List FT)
 | 0, _ => none
 | n + 1, t =>
  match P.underlying t with
  | some .bool => some [.bool]
  | some (.int k) => some [.int k]
  | some .string => some [.str]
  | some (.slice e) => match flat n e with
   | some B0 => if B0.length = P.cellsOf e /\ 0 < B0.length then some [.row (P.bytesOf e) B0] else none
   | none => none
  | some (.struct fs) => match fs.toList.mapM fun f => flat n f.type with
   | some ls => if Rz P fs.toList ls 0 (P.cellsOf t) then some ls.flatten else none
   | none => none
  | _ => none
end
inductive Reads (W : World) : FT -> Value -> Prop
 | bool (b : Bool) : Reads W .bool (.bool b)
 | int (k : IntKind) (n : Int) (h : (Lit.int k n).wf = true) : Reads W (.int k) (.int k n)
 | str (s : ByteArray) (h : s.size <= reachBytes) : Reads W .str (.string s)
 | nil (bytes : Nat) (B0 : List FT) : Reads W (.row bytes B0) (.slice none 0 0)
 | row (bytes : Nat) (B0 : List FT) (a : Addr) (len cap : Nat) (V : Nat -> List Value) (hl : len <= cap) (hm : cap <= maxLen) (hb : len * bytes <= reachBytes) (h0 : 0 < B0.length)
   (hE : 0 < cap -> ∃ c t fr, W.heap[a.block]? = some (.cells c t fr) /\ a.spot = none /\ a.off + len * B0.length <= c.size /\
    ∀ i j, i < len -> j < B0.length -> c[a.off + i * B0.length + j]? = (V i)[j]?)
   (hlen : ∀ i, i < len -> (V i).length = B0.length)
   (hr : ∀ (i : Nat), i < len -> ∀ (j : Nat) ft v, B0[j]? = some ft -> (V i)[j]? = some v -> Reads W ft v) : Reads W (.row bytes B0) (.slice (some a) len cap)
def R8 (W : World) (B0 : List FT) (cs : List Value) : Prop := B0.length = cs.length /\ ∀ (j : Nat) ft v, B0[j]? = some ft -> cs[j]? = some v -> Reads W ft v
theorem R8.one {W : World} {ft : FT} {v : Value} (h : Reads W ft v) : R8 W [ft] [v] := ⟨rfl, fun j a b ha hb => by
 cases j with
 | zero => simp at ha hb; subst ha; subst hb; exact h
 | succ j => simp at ha⟩
theorem R8.nil (W : World) : R8 W [] [] := ⟨rfl, by simp⟩
theorem R8.append {W : World} {x y : List FT} {x' y' : List Value} (h : R8 W x x') (k : R8 W y y') : R8 W (x ++ y) (x' ++ y') := by
 refine ⟨by simp [h.1, k.1], fun i a b ha hb => ?_⟩
 by_cases hi : i < x.length
 ·rw [List.getElem?_append_left hi] at ha
  rw [List.getElem?_append_left (by rw [<- h.1]; exact hi)] at hb
  exact h.2 i a b ha hb
 ·rw [List.getElem?_append_right (by omega)] at ha
  rw [List.getElem?_append_right (by rw [<- h.1]; omega)] at hb
  rw [<- h.1] at hb
  exact k.2 _ a b ha hb
section
variable {H : Type} {enc : TypeId × Value -> H} {P : Program} {W : World}
theorem FX {e : TypeId} {ds : List (DataW H)} {d : DataW H} (h : d ∈ ds) {n : Nat} (hn : n ∈ d.weights P e) : n ∈ DataW.weightsAll P e ds := by
 induction ds with
 | nil => cases h
 | cons x r ih =>
  simp only [DataW.weightsAll, List.mem_append]
  rcases List.mem_cons.1 h with rfl | h
  ·exact .inl hn
  ·exact .inr (ih h)
theorem II {w : World} {a : Addr} {v : Value} (h : w.cell? a = some v) : ∃ c t fr, w.heap[a.block]? = some (.cells c t fr) /\ a.spot = none /\ c[a.off]? = some v := by
 unfold World.cell? at h
 split at h
 ·rename_i c t fr hc
  split at h
  ·cases h
  ·rename_i hs
   exact ⟨c, t, fr, hc, by cases ha : a.spot <;> simp_all, h⟩
 ·cases h
theorem GX (a : Addr) (n : Nat) : (a.add n).block = a.block := by unfold Addr.add; split <;> rfl
theorem XO (a : Addr) (n : Nat) : (a.add n).off = a.off + n := by unfold Addr.add; split <;> simp_all
theorem Ry {n : Nat} {dep : Nat} (ih : ∀ (n : Nat) (t : TypeId) (cs : List Value) (d : DataW H) (ps : List MemPlace) (B0 : List FT), flat P dep t = some B0 -> DataW.trod enc P W 0 (fun _ => true) true n t cs = some (d, ps) ->
   (∀ m ∈ d.weights P t, m <= reachBytes) -> R8 W B0 cs) (cs : List Value) :
  ∀ (fs : List Field) (ls : List (List FT)) (xs : List (DataW H × List MemPlace)) (o : Nat), fs.mapM (fun f => flat P dep f.type) = some ls -> Rz P fs ls o cs.length = true -> xs.length = fs.length ->
   (∀ (i : Nat) f, fs[i]? = some f -> DataW.trod enc P W 0 (fun _ => true) true n f.type ((cs.drop f.offset).take (P.cellsOf f.type)) = xs[i]?) ->
   (∀ m ∈ DataW.weightsEach P (fs.map (·.type)) (xs.map (·.1)), m <= reachBytes) -> o <= cs.length -> R8 W ls.flatten (cs.drop o) := by
 intro fs
 induction fs with
 | nil =>
  intro ls xs o Ym ht hx X7 hw ho
  simp only [List.mapM_nil, Option.pure_def, U0] at Ym
  subst Ym
  simp only [Rz] at ht
  have := B6 ht
  subst this
  simp only [List.flatten_nil, List.drop_length]
  exact R8.nil W
 | cons f fs wm =>
  intro ls xs o Ym ht hx X7 hw ho
  simp only [List.mapM_cons, Option.bind_eq_bind, Option.pure_def] at Ym
  cases Qw : flat P dep f.type with
  | none => rw [Qw] at Ym; cases Ym
  | some l =>
   cases hr : fs.mapM (fun f => flat P dep f.type) with
   | none => rw [Qw, hr] at Ym; cases Ym
   | some lr =>
    rw [Qw, hr] at Ym
    simp only [Option.bind_some, U0] at Ym
    subst Ym
    simp only [Rz, Bool.and_eq_true] at ht
    obtain ⟨⟨h1, h2⟩, h3⟩ := ht
    have h1 := B6 h1
    have h2 := B6 h2
    cases xs with
    | nil => simp at hx
    | cons x xr =>
     have lg := X7 0 f rfl
     simp only [List.getElem?_cons_zero] at lg
     have hR := ih n f.type _ x.1 x.2 l Qw (by rw [lg]) (fun m hm => hw m (by simp only [List.map_cons, DataW.weightsEach, List.mem_append]; exact .inl hm))
     rw [h1, <- h2] at hR
     have hlen := hR.1
     have hle : o + l.length <= cs.length := by
      rw [List.length_take, List.length_drop] at hlen
      omega
     have hT := wm lr xr (o + l.length) hr h3 (by simpa using hx) (fun i g hg => by simpa using X7 (i + 1) g (by simpa using hg)) (fun m hm => hw m (by simp only [List.map_cons, DataW.weightsEach, List.mem_append]; exact .inr hm)) hle
     have e : cs.drop o = (cs.drop o).take l.length ++ cs.drop (o + l.length) := by
      rw [<- List.drop_drop, List.take_append_drop]
     rw [e, List.flatten_cons]
     exact hR.append hT
theorem Uf : ∀ (dep : Nat) (fuel : Nat) (t : TypeId) (cs : List Value) (d : DataW H) (ps : List MemPlace) (B0 : List FT), flat P dep t = some B0 -> DataW.trod enc P W 0 (fun _ => true) true fuel t cs = some (d, ps) ->
  (∀ m ∈ d.weights P t, m <= reachBytes) -> R8 W B0 cs := by
 intro dep
 induction dep with
 | zero => intro n t cs d ps B0 hf; cases hf
 | succ dep ih =>
  intro fuel t cs d ps B0 hf h hw
  cases fuel with
  | zero => simp [DataW.trod] at h
  | succ n =>
   simp only [flat] at hf
   split at hf
   ·rename_i ht
    simp only [U0] at hf; subst hf
    obtain ⟨b, rfl, _⟩ := DataW.trod_bool ht h
    exact R8.one (.bool b)
   ·rename_i k ht
    simp only [U0] at hf; subst hf
    obtain ⟨m, rfl, _, qU⟩ := DataW.trod_int ht h
    exact R8.one (.int k m qU)
   ·rename_i ht
    simp only [U0] at hf; subst hf
    obtain ⟨s, rfl, hx, _⟩ := DataW.trod_string ht h
    simp only [Prod.mk.injEq] at hx
    obtain ⟨rfl, rfl⟩ := hx
    exact R8.one (.str s (by have := hw s.data.toList.length (by simp [DataW.weights]); simpa using this))
   ·rename_i e ht
    split at hf
    ·rename_i fe xd
     split at hf
     ·rename_i hz
      simp only [U0] at hf; subst hf
      obtain ⟨hz, h0⟩ := hz
      rcases Go.Deep.open_slice ht h with ⟨rfl, _⟩ | ⟨a, len, cap, m, n', D, Pl, rfl, hb, hl, hm, iZ, hx, Ka⟩
      ·exact R8.one (.nil _ _)
      ·simp only [if_true] at iZ
       subst iZ
       simp only [Prod.mk.injEq] at hx
       obtain ⟨rfl, rfl⟩ := hx
       have jh : ∀ x ∈ DataW.weights P t (DataW.slice ((List.range len).map D) ((List.range (m - len)).map fun j => D (len + j))), x <= reachBytes := hw
       simp only [DataW.weights, ht, List.mem_cons, List.mem_append, List.length_map, List.length_range] at jh
       have Vh : m * P.bytesOf e <= reachBytes := by
        have := jh _ (.inl rfl)
        rwa [show len + (m - len) = m by omega] at this
       have yB : ∀ i, i < m -> ∀ x ∈ (D i).weights P e, x <= reachBytes := by
        intro i hi x vl
        by_cases xX : i < len
        ·exact jh x (.inr (.inl (FX (List.mem_map.2 ⟨i, by simpa using xX, rfl⟩) vl)))
        ·exact jh x (.inr (.inr (FX (List.mem_map.2 ⟨i - len, by simp; omega, by rw [show len + (i - len) = i by omega]⟩) vl)))
       obtain ⟨V, hV⟩ := Go.Deep.choose_lt (α := List Value) (p := fun i Rn => W.cells? 0 (a.add (i * P.cellsOf e)) (P.cellsOf e) = some Rn /\ DataW.trod enc P W 0 (fun _ => true) true n' e Rn = some (D i, Pl i)) Ka
       have Em : ∀ i, i < m -> ∀ j, j < fe.length -> W.cell? ((a.add (i * P.cellsOf e)).add j) = (V i)[j]? := by
        intro i hi j hj
        exact (World.cells?_some (hV i hi).1).2.2 j (by omega)
       have se : ∀ i, i < m -> (V i).length = fe.length := fun i hi => ((World.cells?_some (hV i hi).1).2.1).trans hz.symm
       refine R8.one (.row _ _ a len m V hl hm (Nat.le_trans (Nat.mul_le_mul_right _ hl) Vh) h0 (fun Qr => ?_) (fun i hi => se i (by omega)) (fun i hi j ft v Vc hv => ?_))
       ·have Yt := Em 0 Qr 0 h0
        have oU : (V 0)[0]? = some ((V 0)[0]'(by rw [se 0 Qr]; exact h0)) := List.getElem?_eq_getElem _
        rw [oU] at Yt
        obtain ⟨c, tt, fr, hc, hs, _⟩ := II Yt
        rw [GX, GX] at hc
        have Ad : ∀ i j, i < m -> j < fe.length -> c[a.off + i * fe.length + j]? = (V i)[j]? := by
         intro i j hi hj
         have h1 := Em i hi j hj
         have hv : (V i)[j]? = some ((V i)[j]'(by rw [se i hi]; exact hj)) := List.getElem?_eq_getElem _
         rw [hv] at h1 ⊢
         obtain ⟨c', _, _, Wz, _, h2⟩ := II h1
         rw [GX, GX, hc] at Wz
         simp only [U0, Obj.cells.injEq] at Wz
         obtain ⟨rfl, _⟩ := Wz
         rw [XO, XO, <- hz] at h2
         exact h2
        refine ⟨c, tt, fr, hc, ?_, ?_, fun i j hi hj => Ad i j (by omega) hj⟩
        ·simpa [Addr.add] using hs
        ·by_cases cQ : len = 0
         ·subst cQ
          have := Ad 0 0 Qr h0
          rw [oU] at this
          have := (Array.getElem?_eq_some_iff.1 this).1
          simp at this ⊢
          omega
         ·have h1 := Ad (len - 1) (fe.length - 1) (by omega) (by omega)
          rw [List.getElem?_eq_getElem (by rw [se _ (by omega)]; omega)] at h1
          have h2 := (Array.getElem?_eq_some_iff.1 h1).1
          have h3 : len * fe.length = (len - 1) * fe.length + fe.length := by
           conv => lhs; rw [show len = (len - 1) + 1 by omega, Nat.add_mul, Nat.one_mul]
          omega
       ·exact (ih n' e (V i) (D i) (Pl i) fe xd (hV i (by omega)).2 (yB i (by omega))).2 j ft v Vc hv
     ·cases hf
    ·cases hf
   ·rename_i fs ht
    split at hf
    ·rename_i ls Ym
     split at hf
     ·rename_i qX
      simp only [U0] at hf; subst hf
      obtain ⟨xs, m, hm, hx, Q3, bw, X7⟩ := DataW.trod_struct ht h
      simp only [Nat.add_right_cancel_iff] at hm
      subst hm
      simp only [Prod.mk.injEq] at hx
      obtain ⟨rfl, rfl⟩ := hx
      have := Ry (enc := enc) ih cs fs.toList ls xs 0 Ym (by rw [Q3]; exact qX) (by simpa using bw) (fun i f hi => X7 i f (by simpa using hi)) (fun m hm => hw m (by simp only [DataW.weights, ht]; exact hm)) (by omega)
      simpa using this
     ·cases hf
    ·cases hf
   ·cases hf
end
end Go.Proofs.Ythlbahcggmbfaaa.V
namespace Go.Proofs.Ythlbahcggmbfaaa.V
open Go.RowKit Go.ChangeShapes Go.WideShapes
inductive D where
 | bool (b : Bool)
 | int (n : Int)
 | str (s : ByteArray)
 | nil
 | row (es : List (List D))
 deriving Inhabited
inductive Has (g : Nat -> Option F2) : FT -> D -> VV -> Prop
 | bool (b : Bool) : Has g .bool (.bool b) (.bool b)
 | int (k : IntKind) (n : Int) (h : (Lit.int k n).wf = true) : Has g (.int k) (.int n) (.int k n)
 | str (s : ByteArray) (h : s.size <= reachBytes) : Has g .str (.str s) (.str s)
 | nil (bytes : Nat) (B0 : List FT) : Has g (.row bytes B0) .nil .nilslice
 | row (bytes : Nat) (B0 : List FT) (rows : List (List D)) (b : Nat) (k : Es) (hg : g b = some (.cells k)) (B2 : k.ro = true) (hz : k.L3 = B0.length) (h0 : 0 < B0.length) (hlen : k.es.length = rows.length)
   (hb : rows.length * bytes <= reachBytes)
   (jj : ∀ (i : Nat) r cs, rows[i]? = some r -> k.es[i]? = some cs -> r.length = B0.length /\ cs.length = B0.length)
   (hr : ∀ (i : Nat) r cs, rows[i]? = some r -> k.es[i]? = some cs -> ∀ (j : Nat) ft d v, B0[j]? = some ft -> r[j]? = some d -> cs[j]? = some v -> Has g ft d v) :
   Has g (.row bytes B0) (.row rows) (.slice b 0 rows.length none B0.length)
structure Jl (g : Nat -> Option F2) (B0 : List FT) (ds : List D) (vs : List VV) : Prop where
 len : ds.length = B0.length
 Ar : vs.length = B0.length
 at_ : ∀ (j : Nat) ft d v, B0[j]? = some ft -> ds[j]? = some d -> vs[j]? = some v -> Has g ft d v
theorem Has.mono {g g' : Nat -> Option F2} (hle : ∀ b o, g b = some o -> g' b = some o) {ft : FT} {d : D} {v : VV} (h : Has g ft d v) : Has g' ft d v := by
 induction h with
 | bool b => exact .bool b
 | int k n h => exact .int k n h
 | str s h => exact .str s h
 | nil bytes B0 => exact .nil bytes B0
 | row bytes B0 rows b k hg B2 hz h0 hlen hb jj hr ih => exact .row bytes B0 rows b k (hle _ _ hg) B2 hz h0 hlen hb jj ih
theorem Jl.mono {g g' : Nat -> Option F2} (hle : ∀ b o, g b = some o -> g' b = some o) {B0 : List FT} {ds : List D} {vs : List VV} (h : Jl g B0 ds vs) : Jl g' B0 ds vs :=
 ⟨h.len, h.Ar, fun j ft d v a b c => (h.at_ j ft d v a b c).mono hle⟩
theorem Jl.nil (g : Nat -> Option F2) : Jl g [] [] [] := ⟨rfl, rfl, by simp⟩
theorem Jl.cons {g : Nat -> Option F2} {ft : FT} {d : D} {v : VV} {B0 : List FT} {ds : List D} {vs : List VV} (h : Has g ft d v) (k : Jl g B0 ds vs) : Jl g (ft :: B0) (d :: ds) (v :: vs) := by
 refine ⟨by simp [k.len], by simp [k.Ar], fun j a b c h1 h2 h3 => ?_⟩
 cases j with
 | zero => simp at h1 h2 h3; subst h1; subst h2; subst h3; exact h
 | succ j => simp at h1 h2 h3; exact k.at_ j a b c h1 h2 h3
structure St (W : World) (ρ : Ren) (h : A0) : Prop where
 rel : Rel ρ h.get W
 wf : WF h.get h.next
 ro : ∀ b o, h.get b = some o -> ∃ k, o = .cells k /\ k.ro = true /\ k.Q2 = false /\ k.last = false
def ZS (h h' : A0) : Prop := ∀ b o, h.get b = some o -> h'.get b = some o
theorem St.empty (W : World) : St W (fun _ => none) .empty := by
 have : ∀ b, A0.empty.get b = none := fun b => by rw [A0.get_eq, if_neg (by simp [A0.empty])]
 refine ⟨⟨(fun b l h => by cases h), (fun b1 b2 l1 l2 o1 o2 h => by cases h)⟩, ⟨?_, ?_, ?_, ?_, ?_⟩, ?_⟩ <;> intros <;> simp_all
theorem St.push {W : World} {ρ : Ren} {h : A0} (hs : St W ρ h) (l : Loc) (k : Es) (B2 : k.ro = true) (CU : k.Q2 = false) (Yn : k.last = false) (CW : k.Q1 = h.next) (ho : Cg ρ l (.cells k) W.heap[l.mb]?) :
  St W (ρ.add h.next l) (h.push (.cells k)) /\ Ren.le ρ (ρ.add h.next l) /\ ZS h (h.push (.cells k)) := by
 have hn := hs.rel.none hs.wf (Nat.le_refl h.next)
 have uZ : ZS h (h.push (.cells k)) := fun b o hb => by
  rw [A0.V0, if_neg (by have := A0.E7 hb; omega)]; exact hb
 refine ⟨⟨?_, ?_, ?_⟩, Ren.NO hn, uZ⟩
 ·refine hs.rel.insert (o := .cells k) hn (by rw [A0.V0, if_pos rfl]) (fun b hb _ => by rw [A0.V0, if_neg hb]) ho ?_
  intro b2 l2 o2 h2 h3 _
  obtain ⟨k2, rfl, NR, _⟩ := hs.ro b2 o2 h3
  exact ⟨k, k2, rfl, rfl, .inl ⟨B2, NR⟩⟩
 ·refine ⟨?_, ?_, ?_, ?_, ?_⟩
  ·intro b o' hb
   exact A0.E7 hb
  ·intro b k' hb
   rw [A0.V0] at hb
   split at hb
   ·simp only [U0, F2.cells.injEq] at hb
    subst hb; rw [CW]; simp
   ·have := hs.wf.Q1 b k' hb; simp; omega
  ·intro b k' hb Gs
   rw [A0.V0] at hb
   split at hb
   ·simp only [U0, F2.cells.injEq] at hb
    subst hb; rw [CU] at Gs; cases Gs
   ·obtain ⟨k2, e, _, h2, _⟩ := hs.ro b _ hb
    simp only [F2.cells.injEq] at e
    subst e; rw [h2] at Gs; cases Gs
  ·intro b k' hb Ac
   rw [A0.V0] at hb
   split at hb
   ·simp only [U0, F2.cells.injEq] at hb
    subst hb; rw [Yn] at Ac; cases Ac
   ·obtain ⟨k2, e, _, _, h2⟩ := hs.ro b _ hb
    simp only [F2.cells.injEq] at e
    subst e; rw [h2] at Ac; cases Ac
  ·intro b k' hb Ac
   rw [A0.V0] at hb
   split at hb
   ·simp only [U0, F2.cells.injEq] at hb
    subst hb; rw [Yn] at Ac; cases Ac
   ·obtain ⟨k2, e, _, _, h2⟩ := hs.ro b _ hb
    simp only [F2.cells.injEq] at e
    subst e; rw [h2] at Ac; cases Ac
 ·intro b o hb
  rw [A0.V0] at hb
  split at hb
  ·simp only [U0] at hb; subst hb; exact ⟨k, rfl, B2, CU, Yn⟩
  ·exact hs.ro b o hb
def Bd (W : World) (ft : FT) (v : Value) : Prop :=
 ∀ ρ h, St W ρ h -> ∃ ρ' h' d x, St W ρ' h' /\ ZS h h' /\ Ren.le ρ ρ' /\ Has h'.get ft d x /\ Y0 ρ' x v /\ H2 x = true
theorem RP {W : World} : ∀ (B0 : List FT) (cs : List Value), B0.length = cs.length -> (∀ (j : Nat) ft v, B0[j]? = some ft -> cs[j]? = some v -> Bd W ft v) -> ∀ ρ h, St W ρ h ->
  ∃ ρ' h' ds xs, St W ρ' h' /\ ZS h h' /\ Ren.le ρ ρ' /\ Jl h'.get B0 ds xs /\ P2 ρ' xs cs /\ xs.all H2 = true
 | [], [], _, _, ρ, h, hs => ⟨ρ, h, [], [], hs, fun _ _ h => h, Ren.le.refl ρ, Jl.nil _, P2.nil ρ, rfl⟩
 | ft :: B0, v :: cs, hl, hb, ρ, h, hs => by
  obtain ⟨ρ1, h1, d, x, s1, e1, l1, k1, r1, o1⟩ := hb 0 ft v rfl rfl ρ h hs
  obtain ⟨ρ2, h2, ds, xs, s2, e2, l2, k2, r2, o2⟩ := RP B0 cs (by simpa using hl) (fun j a b h1 h2 => hb (j + 1) a b (by simpa using h1) (by simpa using h2)) ρ1 h1 s1
  exact ⟨ρ2, h2, d :: ds, x :: xs, s2, fun b o hb => e2 b o (e1 b o hb), l1.trans l2, Jl.cons (k1.mono e2) k2, P2.cons (r1.mono l2) r2, by simp [o1, o2]⟩
 | [], _ :: _, hl, _, _, _, _ => by simp at hl
 | _ :: _, [], hl, _, _, _, _ => by simp at hl
theorem XM {W : World} (B0 : List FT) (V : Nat -> List Value) : ∀ (n : Nat), (∀ i, i < n -> (V i).length = B0.length) -> (∀ (i : Nat), i < n -> ∀ (j : Nat) ft v, B0[j]? = some ft -> (V i)[j]? = some v -> Bd W ft v) -> ∀ ρ h, St W ρ h ->
  ∃ (ρ' : Ren) (h' : A0) (rows : List (List D)) (es : List (List VV)), St W ρ' h' /\ ZS h h' /\ Ren.le ρ ρ' /\ rows.length = n /\ es.length = n /\ ∀ (i : Nat) r cs, rows[i]? = some r -> es[i]? = some cs -> Jl h'.get B0 r cs /\ P2 ρ' cs (V i) /\ cs.all H2 = true
 | 0, _, _, ρ, h, hs => ⟨ρ, h, [], [], hs, fun _ _ h => h, Ren.le.refl ρ, rfl, rfl, by simp⟩
 | n + 1, hl, hb, ρ, h, hs => by
  obtain ⟨ρ1, h1, rows, es, s1, e1, l1, a1, a2, a3⟩ := XM B0 V n (fun i hi => hl i (by omega)) (fun i hi => hb i (by omega)) ρ h hs
  obtain ⟨ρ2, h2, ds, xs, s2, e2, l2, k2, r2, o2⟩ := RP B0 (V n) (hl n (by omega)).symm (hb n (by omega)) ρ1 h1 s1
  refine ⟨ρ2, h2, rows ++ [ds], es ++ [xs], s2, fun b o hb => e2 b o (e1 b o hb), l1.trans l2, by simp [a1], by simp [a2], fun i r cs hr hc => ?_⟩
  by_cases hi : i < n
  ·rw [List.getElem?_append_left (by omega)] at hr hc
   obtain ⟨q1, q2, q3⟩ := a3 i r cs hr hc
   exact ⟨q1.mono e2, q2.mono l2, q3⟩
  ·have : i < (rows ++ [ds]).length := (List.getElem?_eq_some_iff.1 hr).1
   simp only [List.length_append, List.length_cons, List.length_nil, a1] at this
   have : i = n := by omega
   subst this
   rw [List.getElem?_append_right (by omega)] at hr hc
   simp only [a1, a2, Nat.sub_self, List.getElem?_cons_zero, U0] at hr hc
   subst hr; subst hc
   exact ⟨k2, r2, o2⟩
theorem dw {W : World} (hd : ∃ (b : Nat) (c : Array Value) (t : TypeId) (fr : Nat × Nat), W.heap[b]? = some (Obj.cells c t fr)) {ft : FT} {v : Value} (h : Reads W ft v) : Bd W ft v := by
 induction h with
 | bool b => exact fun ρ h hs => ⟨ρ, h, .bool b, .bool b, hs, fun _ _ h => h, Ren.le.refl ρ, .bool b, .bool b, rfl⟩
 | int k n hw => exact fun ρ h hs => ⟨ρ, h, .int n, .int k n, hs, fun _ _ h => h, Ren.le.refl ρ, .int k n hw, .int k n, rfl⟩
 | str s hz => exact fun ρ h hs => ⟨ρ, h, .str s, .str s, hs, fun _ _ h => h, Ren.le.refl ρ, .str s hz, .str s, rfl⟩
 | nil bytes B0 => exact fun ρ h hs => ⟨ρ, h, .nil, .nilslice, hs, fun _ _ h => h, Ren.le.refl ρ, .nil bytes B0, .nilslice, rfl⟩
 | row bytes B0 a len cap V hl hm hb h0 hE hlen hr ih =>
  intro ρ h hs
  obtain ⟨ρ1, h1, rows, es, s1, e1, l1, a1, a2, a3⟩ := XM B0 V len hlen ih ρ h hs
  let k : Es := { es := es, L3 := B0.length, Q1 := h1.next, E5 := 0, Q2 := false, last := false, ro := true }
  obtain ⟨l, NU, mF, ho, KX⟩ : ∃ l : Loc, l.L3 = B0.length /\ l.ro = true /\ Cg ρ1 l (.cells k) W.heap[l.mb]? /\ (a = addrAt l 0 0 \/ (len = 0 /\ cap = 0)) := by
   by_cases hc : cap = 0
   ·obtain ⟨b, c, t, fr, uo⟩ := hd
    have P8 : es = [] := List.eq_nil_of_length_eq_zero (by omega)
    refine ⟨⟨b, 0, B0.length, c.size, true⟩, rfl, rfl, ?_, .inr ⟨by omega, hc⟩⟩
    show Cg ρ1 _ _ W.heap[b]?
    rw [uo]
    exact .cells k c t fr (fun e => by cases e) rfl rfl h0 (by simp [k, P8]) (fun e => by cases e) (fun i cs Q3 => by simp [k, P8] at Q3)
   ·obtain ⟨c, t, fr, uo, hspot, tv, Ad⟩ := hE (by omega)
    refine ⟨⟨a.block, a.off, B0.length, c.size, true⟩, rfl, rfl, ?_, .inl (by cases a; simp_all [addrAt])⟩
    show Cg ρ1 _ _ W.heap[a.block]?
    rw [uo]
    refine .cells k c t fr (fun e => by cases e) rfl rfl h0 (by simpa [k, a2] using tv) (fun e => by cases e) (fun i cs Q3 => ?_)
    have hi : i < len := by rw [<- a2]; exact (List.getElem?_eq_some_iff.1 Q3).1
    have F4 : rows[i]? = some (rows[i]'(by omega)) := List.getElem?_eq_getElem _
    obtain ⟨q1, q2, q3⟩ := a3 i _ cs F4 Q3
    refine ⟨q1.Ar, q3, fun j v hv => ?_⟩
    obtain ⟨mv, OM, U3⟩ := q2.at hv
    have hj : j < B0.length := by rw [<- q1.Ar]; exact (List.getElem?_eq_some_iff.1 hv).1
    exact ⟨mv, by rw [Ad i j hi hj]; exact OM, U3⟩
  obtain ⟨s2, l2, e2⟩ := s1.push l k rfl rfl rfl rfl ho
  have uV : (h1.push (.cells k)).get h1.next = some (.cells k) := by rw [A0.V0, if_pos rfl]
  refine ⟨ρ1.add h1.next l, h1.push (.cells k), .row rows, .slice h1.next 0 rows.length none B0.length, s2, fun b o hb => e2 b o (e1 b o hb), l1.trans l2, ?_, ?_, rfl⟩
  ·refine .row bytes B0 rows h1.next k uV rfl rfl h0 (by simp [k, a1, a2]) (by rw [a1]; exact hb) (fun i r cs lv ca => ?_) fun i r cs lv ca => ?_
   ·obtain ⟨q1, _, _⟩ := a3 i r cs lv ca
    exact ⟨q1.len, q1.Ar⟩
   ·obtain ⟨q1, _, _⟩ := a3 i r cs lv ca
    exact fun j ft d v x y z => (q1.at_ j ft d v x y z).mono e2
  ·rw [a1]
   exact .slice h1.next 0 len none B0.length l a cap (by simp [Ren.add]) NU hl hm (fun _ e => by cases e) (fun _ e => by rw [mF] at e; cases e) KX
end Go.Proofs.Ythlbahcggmbfaaa.V
namespace Go.Proofs.Ythlbahcggmbfaaa.V
open Go.RowKit Go.ChangeShapes Go.WideShapes Go.ChangeAt
inductive GY (P : Program) (g : Nat -> Option F2) : List TypeId -> List (List D) -> List VV -> Prop
 | nil : GY P g [] [] []
 | cons (t : TypeId) (ts : List TypeId) (B0 : List FT) (ds : List D) (Ij : List (List D)) (xs : List VV) (v : VV) (vs : List VV) (hf : flat P 20 t = some B0) (hx : Jl g B0 ds xs) (hv : B5 P t xs = some v) (hr : GY P g ts Ij vs) :
   GY P g (t :: ts) (ds :: Ij) (v :: vs)
structure Still (h : A0) : Prop where
 wf : WF h.get h.next
 ro : ∀ b o, h.get b = some o -> ∃ k, o = .cells k /\ k.ro = true /\ k.Q2 = false /\ k.last = false
def pE (P : Program) (f : FuncId) (ts : List TypeId) : Prop :=
 ∀ (h : A0) (Ij : List (List D)) (args : List VV), Still h -> GY P h.get ts Ij args -> ∃ h', OI P f args h (.bool true) h'
section
variable {H : Type} {enc : TypeId × Value -> H} {P : Program}
theorem Te {W : World} (h : W.ShapedOpen P) : ∃ (b : Nat) (c : Array Value) (t : TypeId) (fr : Nat × Nat), W.heap[b]? = some (Obj.cells c t fr) := by
 have hk : (begin P (fun _ _ => 0) default).world.heap[P.globals.size]? = some (.cells ((Array.range P.types.size).map fun t => .int .u64 (Int.ofNat t)) 0) := by
  have key : ∀ (A : Array Obj) (x a b c d : Obj), (((((A.push x).push a).push b).push c).push d)[A.size]? = some x := by
   intro A x a b c d
   rw [Array.getElem?_push, if_neg (by simp; omega), Array.getElem?_push, if_neg (by simp; omega), Array.getElem?_push, if_neg (by simp; omega), Array.getElem?_push, if_neg (by simp), Array.getElem?_push, if_pos rfl]
  unfold begin
  refine Eq.trans (congrArg (fun n => _[n]?) ?_) (key _ _ _ _ _ _)
  simp
 have R3 : P.globals.size < (begin P (fun _ _ => 0) default).world.heap.size := (Array.getElem?_eq_some_iff.1 hk).1
 obtain ⟨o, o0, h1, h2, h3⟩ := h.2 P.globals.size (Nat.le_refl _) R3
 rw [hk] at h2
 simp only [U0] at h2
 subst h2
 simp only [Nat.sub_self, World.looseAt] at h3
 exact ⟨P.globals.size, _, _, _, by rw [h1, show o = _ by simpa using h3]⟩
theorem Tm (hl : laidOutB P = true) {W W' : World} (rm : Below W.heap.size W W') : ∀ (ts : List TypeId) (vs : List Value) (ds : List (DataW H)) (p : List MemPlace), (∀ t ∈ ts, P.readableRec t = true /\ t < P.types.size) ->
  DataW.TrodAll enc P W 0 (fun _ => true) true ts vs ds p -> DataW.TrodAll enc P W' 0 (fun b => decide (b < W.heap.size)) true ts vs ds p
 | [], [], [], _, _, h => h
 | t :: ts, v :: vs, d :: ds, p, sK, h => by
  obtain ⟨p1, q1, h1, h2, rfl⟩ := h
  obtain ⟨hr, F4⟩ := sK t (List.mem_cons_self ..)
  have R3 : ∀ x ∈ p1, x.block < W.heap.size := by
   obtain ⟨m, hm⟩ := h1
   exact DataW.trod_lt m _ _ _ hm
  exact ⟨p1, q1, Below.trod hl hr F4 h1 rm R3, Tm hl rm ts vs ds q1 (fun t ht => sK t (List.mem_cons_of_mem _ ht)) h2, rfl⟩
 | [], _ :: _, _, _, _, h => by simp [DataW.TrodAll] at h
 | [], [], _ :: _, _, _, h => by simp [DataW.TrodAll] at h
 | _ :: _, [], _, _, _, h => by simp [DataW.TrodAll] at h
 | _ :: _, _ :: _, [], _, _, h => by simp [DataW.TrodAll] at h
theorem jP {W : World} {t : TypeId} {v : Value} {B0 : List FT} {cs : List Value} (hf : flat P 20 t = some B0) {base : Nat} (I5 : Value.okWide P W .any base t v) (Q3 : cs = v.cells.toList)
  {ρ : Ren} {xs : List VV} (hx : P2 ρ xs cs) (hlen : xs.length = B0.length) : ∃ x, B5 P t xs = some x /\ Y0 ρ x v := by
 subst Q3
 have plain : (∀ fs, P.underlying t ≠ some (.struct fs)) -> (∃ d, P.underlying t = some d /\ ∀ n e, d ≠ .array n e) -> v.cells.toList = [v] -> ∃ x, B5 P t xs = some x /\ Y0 ρ x v := by
  rintro h1 ⟨d, hd, h2⟩ hv
  rw [hv] at hx
  obtain ⟨x, JP, bx⟩ := hx.at (x := xs) (i := 0) (v := xs.headD .undef) (by
   have := hx.1
   match xs, this with
   | [x], _ => rfl)
  have := hx.1
  match xs, this, hx with
  | [x], _, hx =>
   refine ⟨x, ?_, hx.head⟩
   unfold B5
   rw [hd]
   cases d with
   | struct fs => exact absurd hd (h1 fs)
   | array n e => exact absurd rfl (h2 n e)
   | _ => rfl
 simp only [flat] at hf
 split at hf
 ·rename_i ht
  obtain ⟨b, rfl⟩ := okWide_bool ht I5
  exact plain (by rw [ht]; intro fs e; cases e) ⟨_, ht, by intro n e h; cases h⟩ rfl
 ·rename_i k ht
  obtain ⟨b, rfl⟩ := okWide_int ht I5
  exact plain (by rw [ht]; intro fs e; cases e) ⟨_, ht, by intro n e h; cases h⟩ rfl
 ·rename_i ht
  obtain ⟨b, rfl⟩ := okWide_string ht I5
  exact plain (by rw [ht]; intro fs e; cases e) ⟨_, ht, by intro n e h; cases h⟩ rfl
 ·rename_i e ht
  obtain ⟨a, len, cap, rfl⟩ := okWide_slice ht I5
  exact plain (by rw [ht]; intro fs e; cases e) ⟨_, ht, by intro n e h; cases h⟩ rfl
 ·rename_i fs ht
  obtain ⟨cs, rfl, _⟩ := okWide_struct ht I5
  refine ⟨.agg xs, by unfold B5; rw [ht], Y0.JH ?_⟩
  simpa [Value.cells] using hx
 ·cases hf
theorem Tr {W : World} (hd : ∃ (b : Nat) (c : Array Value) (t : TypeId) (fr : Nat × Nat), W.heap[b]? = some (Obj.cells c t fr)) {base : Nat} : ∀ (ts : List TypeId) (vs : List Value) (ds : List (DataW H)) (p : List MemPlace),
  (∀ t ∈ ts, (flat P 20 t).isSome = true) -> (∀ (j : Nat) t v, ts[j]? = some t -> vs[j]? = some v -> Value.okWide P W .any base t v) -> DataW.TrodAll enc P W 0 (fun _ => true) true ts vs ds p ->
  (∀ m ∈ DataW.weightsEach P ts ds, m <= reachBytes) -> ∀ ρ h, St W ρ h -> ∃ ρ' h' Ij xs, St W ρ' h' /\ ZS h h' /\ Ren.le ρ ρ' /\ GY P h'.get ts Ij xs /\ P2 ρ' xs vs
 | [], [], [], _, _, _, _, _, ρ, h, hs => ⟨ρ, h, [], [], hs, fun _ _ h => h, Ren.le.refl ρ, .nil, P2.nil ρ⟩
 | t :: ts, v :: vs, d :: ds, p, Qw, I5, ht, hw, ρ, h, hs => by
  obtain ⟨p1, q1, ⟨fuel, h1⟩, h2, rfl⟩ := ht
  obtain ⟨B0, mM⟩ := Option.isSome_iff_exists.1 (Qw t (List.mem_cons_self ..))
  have hR := Uf 20 fuel t _ d p1 B0 mM h1 (fun m hm => hw m (by simp only [DataW.weightsEach, List.mem_append]; exact .inl hm))
  obtain ⟨ρ1, PT, dd, xs, s1, e1, l1, k1, r1, _⟩ := RP B0 v.cells.toList hR.1 (fun j ft v a b => dw hd (hR.2 j ft v a b)) ρ h hs
  obtain ⟨x, JP, bx⟩ := jP mM (I5 0 t v rfl rfl) rfl r1 k1.Ar
  obtain ⟨ρ2, yE, Ij, vT, s2, e2, l2, k2, r2⟩ := Tr hd ts vs ds q1 (fun t ht => Qw t (List.mem_cons_of_mem _ ht)) (fun j t v a b => I5 (j + 1) t v (by simpa using a) (by simpa using b)) h2
   (fun m hm => hw m (by simp only [DataW.weightsEach, List.mem_append]; exact .inr hm)) ρ1 PT s1
  exact ⟨ρ2, yE, dd :: Ij, x :: vT, s2, fun b o hb => e2 b o (e1 b o hb), l1.trans l2, .cons t ts B0 dd Ij xs x vT mM (k1.mono e2) JP k2, P2.cons (bx.mono l2) r2⟩
 | [], _ :: _, _, _, _, _, h, _, _, _, _ => by simp [DataW.TrodAll] at h
 | [], [], _ :: _, _, _, _, h, _, _, _, _ => by simp [DataW.TrodAll] at h
 | _ :: _, [], _, _, _, _, h, _, _, _, _ => by simp [DataW.TrodAll] at h
 | _ :: _, _ :: _, [], _, _, _, h, _, _, _, _ => by simp [DataW.TrodAll] at h
theorem Ll {ts us : List TypeId} {ds gs : List (DataW H)} (hl : ts.length = ds.length) : ∀ m ∈ DataW.weightsEach P ts ds, m ∈ DataW.weightsEach P (ts ++ us) (ds ++ gs) := by
 induction ts generalizing ds with
 | nil => cases ds with
  | nil => intro m hm; simp [DataW.weightsEach] at hm
  | cons d ds => simp at hl
 | cons t ts ih => cases ds with
  | nil => simp at hl
  | cons d ds =>
   intro m hm
   simp only [DataW.weightsEach, List.mem_append, List.cons_append] at hm ⊢
   rcases hm with hm | hm
   ·exact .inl hm
   ·exact .inr (ih (by simpa using hl) m hm)
theorem Jz {W : World} {base : Nat} {sp : Nat -> Bool} {hd : Bool} : ∀ (ts : List TypeId) (vs : List Value) (ds : List (DataW H)) (p : List MemPlace), DataW.TrodAll enc P W base sp hd ts vs ds p -> ts.length = ds.length
 | [], [], [], _, _ => rfl
 | t :: ts, v :: vs, d :: ds, p, h => by
  obtain ⟨_, _, _, h2, _⟩ := h
  simp [Jz ts vs ds _ h2]
 | [], _ :: _, _, _, h => by simp [DataW.TrodAll] at h
 | [], [], _ :: _, _, h => by simp [DataW.TrodAll] at h
 | _ :: _, [], _, _, h => by simp [DataW.TrodAll] at h
 | _ :: _, _ :: _, [], _, h => by simp [DataW.TrodAll] at h
end
theorem Yf {H : Type} (enc : TypeId × Value -> H) {C : Checked} {f : FuncId} {fn : Func} {s : ChangeSpec} {bt : TypeId}
  (Wo : s.vars = []) (Sz : ∀ ds : List (DataW H), ds.length = fn.params.size -> s.fn H ds = { results := [.lit (.bool true)], args := ds, vars := [] })
  (Gg : fn.resultTypes = #[bt]) (uj : C.prog.underlying bt = some .bool) (hl : laidOutB C.prog = true) (mB : (fn.params.toList.all fun t => C.prog.readableRec t && decide (t < C.prog.types.size) && (flat C.prog 20 t).isSome) = true)
  (law : pE C.prog f fn.params.toList) (W : World) (base : Nat) (args : Array Value) (ds gs : List (DataW H)) (before : List MemPlace)
  (cB : ∀ (j : Nat) t v, fn.params[j]? = some t -> args[j]? = some v -> Value.okWide C.prog W .any base t v)
  (hW : DataW.Whole enc C.prog fn.params.toList s.vars false W args.toList ds gs before)
  (EO : (DataW.weightsEach C.prog (fn.params.toList ++ s.plain.varTypes C.prog) (ds ++ gs)).all (· <= reachBytes) = true) (sL : W.ShapedOpen C.prog) (hI : ay W) :
  Calls C.prog f args W fun e W' => ∃ v, e = .returned v /\ s.post enc C.prog fn false true false false W args v W' := by
 have xu := hW
 obtain ⟨p, q, hA, hV, rfl, _, _⟩ := hW
 rw [Wo] at hV
 obtain ⟨rfl, rfl⟩ := trodVars_none hV
 have jo : ∀ t ∈ fn.params.toList, (C.prog.readableRec t = true /\ t < C.prog.types.size) /\ (flat C.prog 20 t).isSome = true := fun t ht => by
  have := List.all_eq_true.1 mB t ht
  simp only [Bool.and_eq_true, decide_eq_true_eq] at this
  exact this
 have hlen := Jz _ _ _ _ hA
 have hw : ∀ m ∈ DataW.weightsEach C.prog fn.params.toList ds, m <= reachBytes := fun m hm => by
  have := List.all_eq_true.1 EO m (Ll hlen m hm)
  simpa using this
 obtain ⟨ρ, h, Ij, xs, hs, _, _, V6, U3⟩ := Tr (Te sL) fn.params.toList args.toList ds p (fun t ht => (jo t ht).2) (fun j t v a b => cB j t v (by simpa using a) (by simpa using b)) hA hw _ _ (St.empty W)
 obtain ⟨h', lk⟩ := law h Ij xs ⟨hs.wf, hs.ro⟩ V6
 have hc := lk ρ W args.toList hs.rel hs.wf U3 ⟨W, hI, Nat.le_refl _, fun _ _ => rfl, fun b l hb => by
  obtain ⟨o, ho, _⟩ := hs.rel.obj b l hb
  obtain ⟨k, rfl, hk, _⟩ := hs.ro b o ho
  exact .inr ⟨k, ho, hk⟩⟩
 rw [Array.toArray_toList] at hc
 refine hc.mono fun e W' ⟨mv, ρ', he, E3, OM⟩ => ?_
 cases OM
 subst he
 have rm : Below W.heap.size W W' := ⟨E3.os, E3.tape, E3.output, E3.size, fun B hB => E3.old B hB fun b l hb _ => by
  obtain ⟨o, ho, _⟩ := hs.rel.obj b l hb
  obtain ⟨k, rfl, hk, _⟩ := hs.ro b o ho
  exact ⟨k, ho, hk⟩⟩
 refine ⟨_, rfl, ds, [], _, [], p, [], xu, ?_, ?_, ?_, rm.frame _, fun h => by cases h⟩
 ·rw [Gg, Sz _ (by simpa using hlen.symm)]
  exact trodAll_mk1 (shut_bool uj _)
 ·rw [Sz _ (by simpa using hlen.symm)]
  simp only [List.append_nil]
  exact Tm hl rm _ _ _ _ (fun t ht => (jo t ht).1) hA
 ·rw [Sz _ (by simpa using hlen.symm), Wo]
  rfl
theorem lift {H : Type} (enc : TypeId × Value -> H) {C : Checked} {os : Os} {f : FuncId} {fn : Func} {s : ChangeSpec} {conds : List PathCond} {bt : TypeId} (own : ownKnob C.prog.godebug = none) (started : os.Started) (lW : C.prog.inits.idxOf? f = none) (mO : C.prog.funcs[f]? = some fn)
  (witness : ∃ (w : World) (tape : Tape) (i : Input), w.os = os /\ (w.forCall tape i).Shaped C.prog /\ i.vars = [] /\ Input.okWide C.prog (w.forCall tape i) .any w.heap.size f i /\
   s.pre6 enc C.prog fn conds false (w.forCall tape i).memory i.args /\ Assume.holds {} C.prog (lone (Frame.enter C.prog f i.args .normal) [] (w.forCall tape i)))
  (Wo : s.vars = []) (Sz : ∀ ds : List (DataW H), ds.length = fn.params.size -> s.fn H ds = { results := [.lit (.bool true)], args := ds, vars := [] })
  (Gg : fn.resultTypes = #[bt]) (uj : C.prog.underlying bt = some .bool) (hl : laidOutB C.prog = true) (mB : (fn.params.toList.all fun t => C.prog.readableRec t && decide (t < C.prog.types.size) && (flat C.prog 20 t).isSome) = true)
  (law : pE C.prog f fn.params.toList) (hI : ∀ W : World, W.ShapedOpen C.prog -> ay W := by exact fun _ _ => trivial) :
  ReturnsInHanded {} C os f .any (s.pre6 enc C.prog fn conds false) (s.post enc C.prog fn false true false false) := by
 refine returnsInHanded_of_change_shaped own started lW mO witness ?_
 exact fun W base args ds gs before cB hW _ EO sL _ => Yf enc Wo Sz Gg uj hl mB law W base args ds gs before cB hW EO sL (hI W sL)
end Go.Proofs.Ythlbahcggmbfaaa.V
namespace Go.Proofs.Ythlbahcggmbfaaa.V
section
variable {P : Program} {X : Ext}
def Ch (c d : O5) : Prop := ∀ f a h r, c f a h = some r -> d f a h = some r
theorem UU {c d : O5} (hc : Ch c d) {k : Call} {e : Env} {h : A0} {r : VV × A0} (hr : F8 P c k e h = some r) : F8 P d k e h = some r := by
 unfold F8 at hr ⊢
 split at hr
 ·split at hr
  ·split at hr
   ·rename_i hp; rw [if_pos hp]; exact hc _ _ _ _ hr
   ·cases hr
  ·cases hr
 ·split at hr
  ·split at hr
   ·split at hr
    ·rename_i hm hp; simp only [hp, if_true]; exact hc _ _ _ _ hr
    ·cases hr
   ·cases hr
  ·cases hr
 ·exact hr
theorem Ev {c d : O5} (hc : Ch c d) {o : Oper} {e : Env} {h : A0} {r : VV × A0} (hr : CG P c o e h = some r) : CG P d o e h = some r := by
 obtain ⟨dst, op, ty, pos, after, guard⟩ := o
 cases op with
 | call k =>
  have h1 : F8 P c k e h = some r := hr
  exact UU hc h1
 | makeMap t n => cases n <;> exact hr
 | _ => exact hr
theorem Fz {c d : O5} (hc : Ch c d) {ops : Array Oper} : ∀ {l : List Oper} {e : Env} {h : A0} {r : Env × A0}, Eu P c ops l e h = some r -> Eu P d ops l e h = some r
 | [], _, _, _, hr => hr
 | o :: l, e, h, r, hr => by
  unfold Eu at hr ⊢
  split at hr
  ·split at hr
   ·rename_i hv
    rw [Ev hc hv]
    exact Fz hc hr
   ·cases hr
  ·exact Fz hc hr
  ·cases hr
theorem Ai {c d : O5} (hc : Ch c d) {ops : Array Oper} {Q7 : Array Nat} : ∀ {l : List Oper} {i : Nat} {e : Env} {h : A0} {rs : List (Nat × Oper × Env × VV)} {es : List (Nat × A0)} {r : Env × A0},
  BI P c ops Q7 i l e h rs es = some r -> BI P d ops Q7 i l e h rs es = some r
 | [], _, _, _, _, _, _, hr => by unfold BI at hr ⊢; exact hr
 | o :: l, i, e, h, rs, es, r, hr => by
  unfold BI at hr ⊢
  split at hr
  ·cases hr
  ·exact Ai hc hr
  ·split at hr
   ·cases hr
   ·rename_i hv
    rw [Ev hc hv]
    simp only
    split at hr
    ·split at hr
     ·rename_i hp; rw [if_pos hp]; exact Ai hc hr
     ·cases hr
    ·split at hr
     ·rename_i hp; rw [if_pos hp]; exact Ai hc hr
     ·cases hr
    ·exact Ai hc hr
theorem Pu {c d : O5} (hc : Ch c d) {ops : Array Oper} {draw : Bool} {e : Env} {h : A0} {r : Env × A0} (hr : Cn P c ops draw e h = some r) : Cn P d ops draw e h = some r := by
 unfold Cn at hr ⊢
 split at hr
 ·exact Fz hc hr
 ·split at hr
  ·exact Ai hc hr
  ·cases hr
theorem Oo {f g : Code -> Env -> A0 -> Option (Y2 × Env × A0)} (wJ : ∀ c e h r, f c e h = some r -> g c e h = some r) : Ch (Ge P f X) (Ge P g X) := by
 intro n a h r hr
 unfold Ge at hr ⊢
 split at hr
 ·exact hr
 ·split at hr
  ·split at hr
   ·split at hr
    ·rename_i hl
     rw [if_pos hl]
     split at hr
     ·rename_i hx; rw [wJ _ _ _ _ hx]; exact hr
     ·rename_i hx; rw [wJ _ _ _ _ hx]; exact hr
     ·cases hr
    ·cases hr
   ·cases hr
  ·cases hr
theorem UT : ∀ (k : Nat) (c : Code) (e : Env) (h : A0) (r : Y2 × Env × A0), B4 P X k c e h = some r -> B4 P X (k + 1) c e h = some r := by
 intro k
 induction k with
 | zero => intro c e h r hr; simp [B4] at hr
 | succ k ih =>
  intro c e h r hr
  unfold B4 at hr ⊢
  cases c with
  | skip => exact hr
  | label _ => exact hr
  | region _ ops draw =>
   simp only at hr ⊢
   split at hr
   ·rename_i hx; rw [Pu (Oo ih) hx]; exact hr
   ·cases hr
  | seq a b =>
   simp only at hr ⊢
   split at hr
   ·rename_i hx; rw [ih _ _ _ _ hx]; exact ih _ _ _ _ hr
   ·rename_i hx
    rw [ih _ _ _ _ hr]
    split
    ·rename_i h2
     exact absurd (h2 ▸ hr) (by intro h3; exact hx _ _ h3)
    ·rfl
  | cond q a b =>
   simp only at hr ⊢
   split at hr
   ·exact ih _ _ _ _ hr
   ·exact ih _ _ _ _ hr
   ·cases hr
  | block id b =>
   simp only at hr ⊢
   split at hr
   ·rename_i hx; rw [ih _ _ _ _ hx]; exact hr
   ·rename_i hx
    rw [ih _ _ _ _ hr]
    split
    ·rename_i h2
     exact absurd (h2 ▸ hr) (by intro h3; exact hx _ _ _ h3)
    ·rfl
  | loop b =>
   simp only at hr ⊢
   split at hr
   ·rename_i hx; rw [ih _ _ _ _ hx]; exact ih _ _ _ _ hr
   ·rename_i hx
    rw [ih _ _ _ _ hr]
    split
    ·rename_i h2
     exact absurd (h2 ▸ hr) (by intro h3; exact hx _ _ h3)
    ·rfl
  | exit id => exact hr
  | ret => exact hr
  | _ => exact hr
theorem Ex {k j : Nat} (jx : k <= j) {c : Code} {e : Env} {h : A0} {r : Y2 × Env × A0} (hr : B4 P X k c e h = some r) : B4 P X j c e h = some r := by
 induction jx with
 | refl => exact hr
 | step _ ih => exact UT _ _ _ _ _ ih
theorem GS {k j : Nat} (jx : k <= j) : Ch (Ge P (B4 P X k) X) (Ge P (B4 P X j) X) := Oo fun _ _ _ _ h => Ex jx h
end
section
variable (P : Program) (X : Ext)
def WP (c : Code) (e : Env) (h : A0) (Q : Y2 -> Env -> A0 -> Prop) : Prop := ∃ k x e' h', B4 P X k c e h = some (x, e', h') /\ Q x e' h'
def VC (f : FuncId) (args : List VV) (h : A0) (Q : VV -> A0 -> Prop) : Prop := ∃ k v h', Zl P X k f args h = some (v, h') /\ Q v h'
def WO (o : Oper) (e : Env) (h : A0) (Q : VV -> A0 -> Prop) : Prop := ∃ k v h', CG P (Ge P (B4 P X k) X) o e h = some (v, h') /\ Q v h'
def WS (ops : Array Oper) (l : List Oper) (e : Env) (h : A0) (Q : Env -> A0 -> Prop) : Prop := ∃ k e' h', Eu P (Ge P (B4 P X k) X) ops l e h = some (e', h') /\ Q e' h'
def WD (ops : Array Oper) (Q7 : Array Nat) (i : Nat) (l : List Oper) (e : Env) (h : A0) (rs : List (Nat × Oper × Env × VV)) (es : List (Nat × A0)) (Q : Env -> A0 -> Prop) : Prop :=
 ∃ k e' h', BI P (Ge P (B4 P X k) X) ops Q7 i l e h rs es = some (e', h') /\ Q e' h'
end
section
variable {P : Program} {X : Ext}
theorem WP.mono {c : Code} {e : Env} {h : A0} {Q R : Y2 -> Env -> A0 -> Prop} (hw : WP P X c e h Q) (hq : ∀ x e h, Q x e h -> R x e h) : WP P X c e h R := by
 obtain ⟨k, x, e', h', a, b⟩ := hw
 exact ⟨k, x, e', h', a, hq _ _ _ b⟩
theorem VC.mono {f : FuncId} {args : List VV} {h : A0} {Q R : VV -> A0 -> Prop} (hw : VC P X f args h Q) (hq : ∀ v h, Q v h -> R v h) : VC P X f args h R := by
 obtain ⟨k, v, h', a, b⟩ := hw
 exact ⟨k, v, h', a, hq _ _ b⟩
theorem WP.skip {e : Env} {h : A0} {Q : Y2 -> Env -> A0 -> Prop} (hq : Q .normal e h) : WP P X .skip e h Q := ⟨1, _, _, _, rfl, hq⟩
theorem WP.label {n : Nat} {e : Env} {h : A0} {Q : Y2 -> Env -> A0 -> Prop} (hq : Q .normal e h) : WP P X (.label n) e h Q := ⟨1, _, _, _, rfl, hq⟩
theorem WP.exit {n : Nat} {e : Env} {h : A0} {Q : Y2 -> Env -> A0 -> Prop} (hq : Q (.exit n) e h) : WP P X (.exit n) e h Q := ⟨1, _, _, _, rfl, hq⟩
theorem WP.ret {e : Env} {h : A0} {Q : Y2 -> Env -> A0 -> Prop} (hq : Q .ret e h) : WP P X .ret e h Q := ⟨1, _, _, _, rfl, hq⟩
def nN (Q : Y2 -> Env -> A0 -> Prop) (next : Env -> A0 -> Prop) : Y2 -> Env -> A0 -> Prop
 | .normal, e, h => next e h
 | x, e, h => Q x e h
theorem WP.seq {a b : Code} {e : Env} {h : A0} {Q : Y2 -> Env -> A0 -> Prop} (hw : WP P X a e h (nN Q fun e h => WP P X b e h Q)) : WP P X (.seq a b) e h Q := by
 obtain ⟨k, x, e1, h1, r1, q1⟩ := hw
 cases x with
 | normal =>
  obtain ⟨j, x, e2, h2, r2, q2⟩ := q1
  refine ⟨max k j + 1, x, e2, h2, ?_, q2⟩
  unfold B4
  simp only [Ex (Nat.le_max_left k j) r1, Ex (Nat.le_max_right k j) r2]
 | exit n => exact ⟨k + 1, _, e1, h1, by unfold B4; simp only [r1], q1⟩
 | ret => exact ⟨k + 1, _, e1, h1, by unfold B4; simp only [r1], q1⟩
theorem WP.cond {c : Operand} {a b : Code} {e : Env} {h : A0} {Q : Y2 -> Env -> A0 -> Prop} (t : Bool) (hc : ev e c = .bool t) (ha : t = true -> WP P X a e h Q) (hb : t = false -> WP P X b e h Q) : WP P X (.cond c a b) e h Q := by
 cases t with
 | true =>
  obtain ⟨k, x, e1, h1, r1, q1⟩ := ha rfl
  exact ⟨k + 1, x, e1, h1, by unfold B4; simp only [hc, r1], q1⟩
 | false =>
  obtain ⟨k, x, e1, h1, r1, q1⟩ := hb rfl
  exact ⟨k + 1, x, e1, h1, by unfold B4; simp only [hc, r1], q1⟩
def Out (id : Nat) (Q : Y2 -> Env -> A0 -> Prop) : Y2 -> Env -> A0 -> Prop
 | .exit n, e, h => match Nat.beq n id with
  | true => Q .normal e h
  | false => Q (.exit n) e h
 | x, e, h => Q x e h
theorem WP.block {id : Nat} {c : Code} {e : Env} {h : A0} {Q : Y2 -> Env -> A0 -> Prop} (hw : WP P X c e h (Out id Q)) : WP P X (.block id c) e h Q := by
 obtain ⟨k, x, e1, h1, r1, q1⟩ := hw
 cases x with
 | normal => exact ⟨k + 1, _, e1, h1, by unfold B4; simp only [r1], q1⟩
 | ret => exact ⟨k + 1, _, e1, h1, by unfold B4; simp only [r1], q1⟩
 | exit n =>
  unfold Out at q1
  simp only at q1
  cases hb : Nat.beq n id with
  | true => rw [hb] at q1; exact ⟨k + 1, _, e1, h1, by unfold B4; simp only [r1, hb], q1⟩
  | false => rw [hb] at q1; exact ⟨k + 1, _, e1, h1, by unfold B4; simp only [r1, hb], q1⟩
theorem WP.bg {c : Code} {e : Env} {h : A0} {Q : Y2 -> Env -> A0 -> Prop} (hw : WP P X c e h (nN Q fun e h => WP P X (.loop c) e h Q)) : WP P X (.loop c) e h Q := by
 obtain ⟨k, x, e1, h1, r1, q1⟩ := hw
 cases x with
 | normal =>
  obtain ⟨j, x, e2, h2, r2, q2⟩ := q1
  refine ⟨max k j + 1, x, e2, h2, ?_, q2⟩
  unfold B4
  simp only [Ex (Nat.le_max_left k j) r1, Ex (Nat.le_max_right k j) r2]
 | exit n => exact ⟨k + 1, _, e1, h1, by unfold B4; simp only [r1], q1⟩
 | ret => exact ⟨k + 1, _, e1, h1, by unfold B4; simp only [r1], q1⟩
theorem WP.loop {c : Code} {Q : Y2 -> Env -> A0 -> Prop} (I : Nat -> Env -> A0 -> Prop)
  (hI : ∀ n e h, I n e h -> WP P X c e h (nN Q fun e h => ∃ m, m < n /\ I m e h)) : ∀ n e h, I n e h -> WP P X (.loop c) e h Q := by
 intro n
 induction n using Nat.strongRecOn with
 | ind n ih =>
  intro e h hi
  refine WP.bg ((hI n e h hi).mono fun x e h hq => ?_)
  cases x with
  | normal => obtain ⟨m, hm, hi⟩ := hq; exact ih m hm e h hi
  | exit n => exact hq
  | ret => exact hq
theorem WP.region {p : Nat} {ops : Array Oper} {e : Env} {h : A0} {Q : Y2 -> Env -> A0 -> Prop} (hw : WS P X ops ops.toList e h fun e h => Q .normal e h) : WP P X (.region p ops false) e h Q := by
 obtain ⟨k, e1, h1, r1, q1⟩ := hw
 exact ⟨k + 1, _, e1, h1, by unfold B4; simp only [Cn, r1], q1⟩
theorem WP.draw {p : Nat} {ops : Array Oper} {e : Env} {h : A0} {Q : Y2 -> Env -> A0 -> Prop} (hd : AM P ops = true) (hw : WD P X ops (Region.before ops) 0 ops.toList e h [] [] fun e h => Q .normal e h) : WP P X (.region p ops true) e h Q := by
 obtain ⟨k, e1, h1, r1, q1⟩ := hw
 exact ⟨k + 1, _, e1, h1, by unfold B4; simp only [Cn, hd, r1], q1⟩
theorem WS.nil {ops : Array Oper} {e : Env} {h : A0} {Q : Env -> A0 -> Prop} (hq : Q e h) : WS P X ops [] e h Q := ⟨0, e, h, rfl, hq⟩
theorem WS.cons {ops : Array Oper} {o : Oper} {l : List Oper} {e : Env} {h : A0} {Q : Env -> A0 -> Prop} (hg : l5 ops o e = some true) (hw : WO P X o e h fun v h => WS P X ops l (e.put o.dst v) h Q) : WS P X ops (o :: l) e h Q := by
 obtain ⟨k, v, h1, r1, j, e2, h2, r2, q2⟩ := hw
 refine ⟨max k j, e2, h2, ?_, q2⟩
 unfold Eu
 simp only [hg, Ev (GS (Nat.le_max_left k j)) r1, Fz (GS (Nat.le_max_right k j)) r2]
theorem WS.skip {ops : Array Oper} {o : Oper} {l : List Oper} {e : Env} {h : A0} {Q : Env -> A0 -> Prop} (hg : l5 ops o e = some false) (hw : WS P X ops l (e.put o.dst Bk) h Q) : WS P X ops (o :: l) e h Q := by
 obtain ⟨k, e1, h1, r1, q1⟩ := hw
 exact ⟨k, e1, h1, by unfold Eu; simp only [hg, r1], q1⟩
theorem WO.of {o : Oper} {e : Env} {h h' : A0} {v : VV} {Q : VV -> A0 -> Prop} (hr : CG P (fun _ _ _ => none) o e h = some (v, h')) (hq : Q v h') : WO P X o e h Q :=
 ⟨0, v, h', Ev (fun _ _ _ _ h => by cases h) hr, hq⟩
theorem WO.call {o : Oper} {c : Call} (ho : o.op = .call c) {f : Operand} (hc : c.callee = .value f) {g : FuncId} {first Il : List VV} {e : Env} {h : A0} (hf : ev e f = .func (.func g) first Il) (hp : plainFunc P g = true) {Q : VV -> A0 -> Prop}
  (hw : VC P X g (first ++ I4 e c.args ++ Il) h Q) : WO P X o e h Q := by
 obtain ⟨k, v, h1, r1, q1⟩ := hw
 refine ⟨k, v, h1, ?_, q1⟩
 obtain ⟨dst, op, ty, pos, after, guard⟩ := o
 ·simp only at ho
  subst ho
  show F8 P _ c e h = _
  unfold F8
  rw [hc]
  simp only [hf, hp, if_true]
  exact r1
theorem VC.of {f : FuncId} {fn : Func} {c : Code} {args : List VV} {h : A0} {Q : VV -> A0 -> Prop} (hX : X f = none) (hf : P.funcs[f]? = some fn) (hc : fn.body = some c) (hl : args.length <= fn.ntmps)
  (hw : WP P X c args h fun x e h => (match x with | .exit _ => False | _ => True) /\ ∃ v, CF P fn e h = some v /\ Q v h) : VC P X f args h Q := by
 obtain ⟨k, x, e1, h1, r1, hx, v, r2, q2⟩ := hw
 refine ⟨k, v, h1, ?_, q2⟩
 unfold Zl Ge
 simp only [hX, hf, hc, if_pos hl, r1]
 cases x with
 | normal => simp only [r2]; rfl
 | ret => simp only [r2]; rfl
 | exit n => exact hx.elim
theorem VC.told {f : FuncId} {g : List VV -> A0 -> Option (VV × A0)} {args : List VV} {h h' : A0} {v : VV} {Q : VV -> A0 -> Prop} (hX : X f = some g) (hg : g args h = some (v, h')) (hq : Q v h') : VC P X f args h Q :=
 ⟨0, v, h', by unfold Zl Ge; simp only [hX, hg], hq⟩
end
def CP : O5 := fun _ _ _ => none
section
variable {P : Program} {X : Ext}
theorem WS.pre (n : Nat) {ops : Array Oper} {l : List Oper} {e e1 : Env} {h h1 : A0} {Q : Env -> A0 -> Prop} (hr : Eu P CP ops (l.take n) e h = some (e1, h1)) (hw : WS P X ops (l.drop n) e1 h1 Q) : WS P X ops l e h Q := by
 induction n generalizing l e h with
 | zero =>
  simp only [List.take_zero, Eu, U0, Prod.mk.injEq] at hr
  obtain ⟨rfl, rfl⟩ := hr
  exact hw
 | succ n ih =>
  cases l with
  | nil =>
   simp only [List.take_nil, Eu, U0, Prod.mk.injEq] at hr
   obtain ⟨rfl, rfl⟩ := hr
   exact hw
  | cons o l =>
   simp only [List.take_succ_cons, Eu] at hr
   simp only [List.drop_succ_cons] at hw
   split at hr
   ·rename_i hg
    split at hr
    ·rename_i hv
     exact WS.cons hg (WO.of hv (ih hr hw))
    ·cases hr
   ·rename_i hg
    exact WS.skip hg (ih hr hw)
   ·cases hr
theorem WP.plain {p : Nat} {ops : Array Oper} {e e1 : Env} {h h1 : A0} {Q : Y2 -> Env -> A0 -> Prop} (hr : Eu P CP ops ops.toList e h = some (e1, h1)) (hq : Q .normal e1 h1) : WP P X (.region p ops false) e h Q :=
 WP.region (WS.pre ops.toList.length (by rw [List.take_length]; exact hr) (by rw [List.drop_length]; exact WS.nil hq))
variable {call : O5} {dst : Option Tmp} {ty : TypeId} {pos : String} {after : Array Edge} {guard : Option (Nat × Bool)} {e : Env} {h : A0}
theorem iA (c a b : Operand) : CG P call ⟨dst, .pick c a b, ty, pos, after, guard⟩ e h = (match ev e c with | .bool true => some (ev e a, h) | .bool false => some (ev e b, h) | _ => none) := rfl
theorem bT (t : TypeId) : CG P call ⟨dst, .alloc t, ty, pos, after, guard⟩ e h = (match D6 P t with | some z => if P.cellsOf t = 0 then none else some (.ptr h.next 0 0, fresh h [C1 z] (P.cellsOf t)) | none => none) := rfl
theorem lH (t : TypeId) (x : Operand) : CG P call ⟨dst, .box t x, ty, pos, after, guard⟩ e h =
  (if (C1 (ev e x)).length = P.cellsOf t /\ P.cellsOf t ≠ 0 /\ (C1 (ev e x)).all H2 then some (.ptr h.next 0 0, fresh h [C1 (ev e x)] (P.cellsOf t)) else none) := rfl
theorem bS (t : TypeId) (parts : Array (Nat × Operand)) : CG P call ⟨dst, .build t parts, ty, pos, after, guard⟩ e h = (Ix P t (parts.toList.map fun (i, x) => (i, ev e x))).map fun v => (v, h) := rfl
theorem Gp (t : TypeId) (len : Nat) (parts : Array (Nat × Operand)) : CG P call ⟨dst, .buildSlice t len parts, ty, pos, after, guard⟩ e h = u6 P t len (parts.toList.map fun (i, x) => (i, ev e x)) h := rfl
theorem LV (t : TypeId) (a : Operand) : CG P call ⟨dst, .load t a, ty, pos, after, guard⟩ e h = (AY P t h (ev e a)).map fun v => (v, h) := rfl
theorem Sf (t : TypeId) (a x : Operand) : CG P call ⟨dst, .store t a x, ty, pos, after, guard⟩ e h = (CE P t h (ev e a) (ev e x)).map fun h' => (.undef, h') := rfl
theorem FU (x : Operand) : CG P call ⟨dst, .nilCheck x, ty, pos, after, guard⟩ e h = (match ev e x with
  | .ptr b i f => some (.ptr b i f, h) | .iface t v => some (.iface t v, h) | .func (.func g) first Il => some (.func (.func g) first Il, h) | _ => none) := rfl
theorem Sg (op : BinOp) (t : TypeId) (x y : Operand) (u : TypeId) : CG P call ⟨dst, .binOp op t x y u, ty, pos, after, guard⟩ e h = (Kt P op t x y (ev e x) (ev e y)).map fun v => (v, h) := rfl
theorem hY (op : UnOp) (t : TypeId) (x : Operand) : CG P call ⟨dst, .unOp op t x, ty, pos, after, guard⟩ e h = (pI op (ev e x)).map fun v => (v, h) := rfl
theorem VE (s d : TypeId) (x : Operand) : CG P call ⟨dst, .convert s d x, ty, pos, after, guard⟩ e h = (match P.underlying s, P.underlying d with
  | some (.slice _), some .string => (Q9 P s d (ev e x) h).map fun v => (v, h)
  | some .string, some (.slice _) => CJ P s d (ev e x) h
  | _, _ => (Ey P s d (ev e x)).map fun v => (v, h)) := rfl
theorem bQ (t : TypeId) (x : Operand) (lo hi mx : Option Operand) : CG P call ⟨dst, .slice t x lo hi mx, ty, pos, after, guard⟩ e h = (match P.underlying t, ev e x with
  | some .string, .str s => (R4 0 (.str s) (lo.map (ev e)) (hi.map (ev e)) (mx.map (ev e))).map fun v => (v, h)
  | some (.slice el), .slice b i n c z => if P.cellsOf el = 0 then none else (R4 (P.cellsOf el) (.slice b i n c z) (lo.map (ev e)) (hi.map (ev e)) (mx.map (ev e))).map fun v => (v, h)
  | some (.slice el), .nilslice => if P.cellsOf el = 0 then none else (R4 (P.cellsOf el) .nilslice (lo.map (ev e)) (hi.map (ev e)) (mx.map (ev e))).map fun v => (v, h)
  | _, _ => none) := rfl
theorem QX (s : TypeId) (x : Operand) (f : Nat) : CG P call ⟨dst, .fieldAddr s x f, ty, pos, after, guard⟩ e h = (match P.underlying s, ev e x with
  | some (.struct fs), .ptr b i g => match fs[f]? with
   | some fd => if P.cellsOf fd.type = 0 then none else some (.ptr b i (g + fd.offset), h)
   | none => none
  | _, _ => none) := rfl
theorem bR (s : TypeId) (x : Operand) (f : Nat) : CG P call ⟨dst, .field s x f, ty, pos, after, guard⟩ e h = (match P.underlying s, ev e x with
  | some (.struct fs), .agg cs => match fs[f]? with
   | some fd => (l9 P fd.type cs fd.offset).map fun v => (v, h)
   | none => none
  | _, _ => none) := rfl
theorem IS (t : TypeId) (x ix : Operand) : CG P call ⟨dst, .indexAddr t x ix, ty, pos, after, guard⟩ e h = (match P.underlying t, ev e x, Y4 (ev e ix) with
  | some (.slice el), .slice b i n _ z, some j => if j < n /\ P.cellsOf el = z /\ z ≠ 0 then some (.ptr b (i + j) 0, h) else none
  | some (.array n el), .ptr b i f, some j => if j < n /\ P.cellsOf el ≠ 0 then some (.ptr b i (f + j * P.cellsOf el), h) else none
  | _, _, _ => none) := rfl
theorem VD (x : Operand) (i : Nat) : CG P call ⟨dst, .extract x i, ty, pos, after, guard⟩ e h = (match ev e x with
  | .tuple vs => match vs[i]? with | some v => some (v, h) | none => none
  | _ => none) := rfl
end
def EK : List Nat -> List Nat -> Bool
 | [], [] => true
 | a :: x, b :: y => Nat.beq a b && EK x y
 | _, _ => false
mutual
def FT.same : FT -> FT -> Bool
 | .bool, .bool => true
 | .int j, .int k => decide (j = k)
 | .str, .str => true
 | .row a x, .row b y => Nat.beq a b && FT.F0 x y
 | .ptr x, .ptr y => FT.F0 x y
 | .EN t x, .EN u y => EK t u && FT.F0 x y
 | _, _ => false
def FT.F0 : List FT -> List FT -> Bool
 | [], [] => true
 | a :: x, b :: y => FT.same a b && FT.F0 x y
 | _, _ => false
end
inductive UV where
 | undef
 | bool (b : Bool)
 | int (k : IntKind) (n : Int)
 | str (s : ByteArray)
 | I2
 | ptr (o f : Nat)
 | u7 (o i f : Nat)
 | m7 (B0 : List FT) (o g n j f : Nat)
 | AX (B0 : List FT) (es : List (List D)) (i f : Nat)
 | nilslice
 | own (o : Nat)
 | fz (B0 : List FT) (es : List (List D)) (cut : Bool)
 | nn (B0 : List FT) (es : List (List D))
 | A3
 | map (o : Nat)
 | D3
 | func (f : FuncId)
 | pz (B0 : List FT) (d : D)
 | pn (B0 : List FT) (ds : List D) (f : Nat)
 | Bn (ts : List Nat) (B0 : List FT) (d : D)
 | I1
 | X0 (o : Nat)
 | pe (o i : Nat)
 | pp (o i : Nat)
 | iface (t : TypeId) (v : UV)
 | agg (cs : List UV)
 | tuple (vs : List UV)
 deriving Inhabited
inductive UO where
 | obj (cs : List UV)
 | row (B0 : List FT) (es : List (List D))
 | old (B0 : List FT) (es : List (List D))
 | map (kf : FT) (ag : Bool) (B0 : List FT) (es : List (D × List D))
 | p0 (B0 : List FT) (es : List (List D)) (x : Option Nat)
 | X8
 | gone
abbrev O0 := List UO
abbrev R1 := List UV
def R1.get : R1 -> Nat -> UV
 | [], _ => .undef
 | v :: _, 0 => v
 | _ :: e, n + 1 => R1.get e n
def R1.set : R1 -> Nat -> UV -> R1
 | [], 0, v => [v]
 | [], n + 1, v => .undef :: R1.set [] n v
 | _ :: e, 0, v => v :: e
 | x :: e, n + 1, v => x :: R1.set e n v
def R1.put (e : R1) (d : Option Tmp) (v : UV) : R1 := match d with | some t => R1.set e t v | none => e
def O0.get : O0 -> Nat -> UO
 | [], _ => .gone
 | v :: _, 0 => v
 | _ :: e, n + 1 => O0.get e n
def O0.T8 : O0 -> Nat -> UO -> O0
 | [], _, _ => []
 | _ :: e, 0, v => v :: e
 | x :: e, n + 1, v => x :: O0.T8 e n v
def O0.len : O0 -> Nat
 | [] => 0
 | _ :: e => Nat.succ (O0.len e)
def O0.push : O0 -> UO -> O0
 | [], o => [o]
 | x :: e, o => x :: O0.push e o
def D.toInt : D -> Int | .int n => n | _ => 0
def D.toBool : D -> Bool | .bool b => b | _ => false
def D.toStr : D -> ByteArray | .str s => s | _ => .empty
def D.C0 : D -> List (List D) | .row es => es | _ => []
def cell (j : Nat) (ds : List D) : D := ds.getD j .nil
def elem (i : Nat) (es : List (List D)) : List D := es.getD i []
def putAt (es : List (List D)) (i f : Nat) (ds : List D) : List (List D) := es.set i ((elem i es).take f ++ ds ++ (elem i es).drop (f + ds.length))
def S1 (n : Nat) : Int := n
def Bi (x y : ByteArray) : Bool := x.toList == y.toList
def strLt (x y : ByteArray) : Bool := Op.bytesLess x.toList y.toList
def Hf (s : ByteArray) : List (List D) := s.data.toList.map fun c => [.int c.toNat]
def byteOf (r : List D) : UInt8 := UInt8.ofNat (cell 0 r).toInt.toNat
def strOf (es : List (List D)) : ByteArray := ⟨(es.map byteOf).toArray⟩
def Vr (s : ByteArray) (i : Nat) : Int := ((s.data.toList.getD i 0).toNat : Int)
def IL (n : Int) : ByteArray := Utf8.encode n
def part (es : List (List D)) (l g : Nat) : List (List D) := (es.take g).drop l
def D.U7 : D -> D -> Bool
 | .int a, .int b => a == b
 | .str a, .str b => a.toList == b.toList
 | .bool a, .bool b => a == b
 | _, _ => false
def CQ (es : List (D × List D)) (k : D) (v : List D) : List (D × List D) := match es with
 | [] => [(k, v)]
 | (a, w) :: r => bif D.U7 k a then (k, v) :: r else (a, w) :: CQ r k v
def VQ (es : List (D × List D)) (k : D) : List (D × List D) := match es with
 | [] => []
 | (a, w) :: r => bif D.U7 k a then r else (a, w) :: VQ r k
def JN (es : List (D × List D)) (k : D) : Bool := match es with
 | [] => false
 | (a, _) :: r => bif D.U7 k a then true else JN r k
def W3 (es : List (D × List D)) (k : D) (z : List D) : List D := match es with
 | [] => z
 | (a, v) :: r => bif D.U7 k a then v else W3 r k z
def fits (n bytes : Nat) : Bool := decide (n * bytes <= R2 /\ n <= R2)
def within (i : Int) (n : Nat) : Bool := decide (0 <= i /\ i.toNat < n)
def H9 (i : Int) (n : Nat) : Bool := decide (0 <= i /\ i.toNat <= n)
def D.IJ : D -> Bool | .row (_ :: _) => true | _ => false
def KB (t : Nat) (d : D) : Bool := match d with | .row (r :: _) => (match r with | .int n :: _ => decide (n = (t : Int)) | _ => false) | _ => false
def qE (d : D) : D := cell 1 (elem 0 d.C0)
def Vl (d : D) : List D := elem 0 d.C0
def Fa : List Nat -> List FT -> Nat -> Option FT
 | a :: ts, ft :: B0, t => match Nat.beq a t with | true => some ft | false => Fa ts B0 t
 | _, _, _ => none
def ja : FT -> D -> UV
 | .bool, d => .bool d.toBool
 | .int k, d => .int k d.toInt
 | .str, d => .str d.toStr
 | .row _ B0, d => .fz B0 d.C0 false
 | .ptr B0, d => .pz B0 d
 | .EN ts B0, d => .Bn ts B0 d
def L9 : Nat -> List FT -> List D -> List UV
 | _, [], _ => []
 | j, ft :: B0, ds => ja ft (cell j ds) :: L9 (j + 1) B0 ds
def rowOf : UO -> Option (List FT × List (List D))
 | .row B0 es => some (B0, es)
 | .old B0 es => some (B0, es)
 | _ => none
def Zy : FT -> UV -> Option D
 | .bool, .bool b => some (.bool b)
 | .int k, .int k' n => match decide (k = k') with | true => some (.int n) | false => none
 | .str, .str x => some (.str x)
 | .ptr B0, .pz W2 d => match FT.F0 B0 W2 with | true => some d | false => none
 | .ptr B0, .pn W2 ds 0 => match FT.F0 B0 W2 with | true => some (.row [ds]) | false => none
 | _, _ => none
def DS (s : O0) : FT -> UV -> Option D
 | .ptr _, .I2 => some .nil
 | .ptr B0, .pz W2 d => match FT.F0 B0 W2 with | true => some d | false => none
 | .ptr B0, .pn W2 ds 0 => match FT.F0 B0 W2 with | true => some (.row [ds]) | false => none
 | .EN _ _, .I1 => some .nil
 | .EN ts B0, .Bn sr W2 d => match EK ts sr && FT.F0 B0 W2 with | true => some d | false => none
 | .EN ts B0, .iface t u => match Fa ts B0 t with
  | some ft => match Zy ft u with | some d => some (.row [[.int t, d]]) | none => none
  | none => none
 | .bool, .bool b => some (.bool b)
 | .int k, .int k' n => match decide (k = k') with | true => some (.int n) | false => none
 | .str, .str x => some (.str x)
 | .row _ _, .nilslice => some .nil
 | .row _ B0, .fz W2 es _ => match FT.F0 B0 W2 with | true => some (.row es) | false => none
 | .row _ B0, .nn W2 es => match FT.F0 B0 W2 with | true => some (.row es) | false => none
 | .row _ B0, .own o => match rowOf (s.get o) with
  | some (W2, es) => match FT.F0 B0 W2 with | true => some (.row es) | false => none
  | none => none
 | _, _ => none
def D8 (s : O0) : List FT -> List UV -> Option (List D)
 | [], [] => some []
 | ft :: B0, v :: vs => match DS s ft v, D8 s B0 vs with
  | some d, some ds => some (d :: ds)
  | _, _ => none
 | _, _ => none
def S5 (n : Nat) : Nat -> List UV -> List (List UV)
 | 0, _ => []
 | k + 1, l => l.take n :: S5 n k (l.drop n)
def Bj (s : O0) (B0 : List FT) : List (List UV) -> Option (List (List D))
 | [] => some []
 | r :: rs => match D8 s B0 r, Bj s B0 rs with
  | some d, some ds => some (d :: ds)
  | _, _ => none
def W4 (s : O0) : UV -> O0
 | .own o => match s.get o with
  | .row B0 es => s.T8 o (.old B0 es)
  | _ => s
 | _ => s
def freeze (s : O0) : List UV -> O0
 | [] => s
 | v :: vs => freeze (W4 s v) vs
def holds (o : Nat) : List UV -> Bool
 | [] => false
 | .own p :: r => Nat.beq p o || holds o r
 | _ :: r => holds o r
def I3 : UV -> List UV
 | .agg cs => cs
 | v => [v]
def En : UV -> Bool
 | .agg _ | .tuple _ | .undef => false
 | _ => true
def p8 : Nat -> VV -> Option UV
 | 0, _ => none
 | _ + 1, .bool b => some (.bool b)
 | _ + 1, .int k n => some (.int k n)
 | _ + 1, .str s => some (.str s)
 | _ + 1, .I2 => some .I2
 | _ + 1, .nilslice => some .nilslice
 | _ + 1, .A3 => some .A3
 | _ + 1, .D3 => some .D3
 | _ + 1, .I1 => some .I1
 | d + 1, .agg cs => (go d cs).map .agg
 | _, _ => none
where go (d : Nat) : List VV -> Option (List UV)
 | [] => some []
 | v :: vs => match p8 d v, go d vs with
  | some x, some xs => some (x :: xs)
  | _, _ => none
def F7 (e : R1) : Operand -> UV
 | .tmp t => e.get t
 | .const v => match n5 3 v with
  | some x => (p8 3 x).getD .undef
  | none => .undef
 | .global _ => .undef
 | .func f => .func f
def AZ (e : R1) (xs : Array Operand) : List UV := xs.toList.map (F7 e)
section
variable (P : Program)
def Cq (t : TypeId) : Option UV := (D6 P t).bind (p8 3)
def DQ (t : TypeId) (cs : List UV) : Option UV :=
 match P.underlying t with
 | some (.struct _) => some (.agg cs)
 | some (.array _ _) => some (.agg cs)
 | some _ => match cs with
  | [v] => some v
  | _ => none
 | none => none
def Ou (t : TypeId) (cs : List UV) (off : Nat) : Option UV :=
 match Nat.ble (off + P.cellsOf t) cs.length with
 | true => DQ P t ((cs.drop off).take (P.cellsOf t))
 | false => none
def Hy (t : TypeId) (s : O0) : UV -> Option UV
 | .ptr o f => match s.get o with
  | .obj cs => Ou P t cs f
  | _ => none
 | .u7 o i f => match rowOf (s.get o) with
  | some (B0, es) => match Nat.ble (f + P.cellsOf t) B0.length with
   | true => DQ P t (L9 f ((B0.drop f).take (P.cellsOf t)) (elem i es))
   | false => none
  | none => none
 | .AX B0 es i f => match Nat.ble (f + P.cellsOf t) B0.length with
  | true => DQ P t (L9 f ((B0.drop f).take (P.cellsOf t)) (elem i es))
  | false => none
 | .m7 B0 o g n j f => match s.get o with
  | .obj cs => match Nat.ble (f + P.cellsOf t) B0.length && Nat.ble (g + n * B0.length) cs.length, Bj [] B0 (S5 B0.length n (cs.drop g)) with
   | true, some rows => DQ P t (L9 f ((B0.drop f).take (P.cellsOf t)) (elem j rows))
   | _, _ => none
  | _ => none
 | .pn B0 ds f => match Nat.ble (f + P.cellsOf t) B0.length with
  | true => DQ P t (L9 f ((B0.drop f).take (P.cellsOf t)) ds)
  | false => none
 | _ => none
def Ez (B0 : List FT) (rows : List (List D)) : Nat -> Nat -> List UV
 | _, 0 => []
 | i, k + 1 => L9 0 B0 (elem i rows) ++ Ez B0 rows (i + 1) k
def Pw (t : TypeId) (s : O0) (a v : UV) : Option O0 :=
 let cs := I3 v
 match Nat.beq cs.length (P.cellsOf t) && !Nat.beq (P.cellsOf t) 0 && cs.all En with
 | false => none
 | true => match a with
  | .ptr o f => match s.get o with
   | .obj old => match Nat.ble (f + cs.length) old.length with
    | true => some (s.T8 o (.obj (old.take f ++ cs ++ old.drop (f + cs.length))))
    | false => none
   | _ => none
  | .u7 o i f => match s.get o with
   | .row B0 es => match Nat.ble (f + cs.length) B0.length, D8 s ((B0.drop f).take cs.length) cs with
    | true, some ds => match holds o cs with
     | false => some ((freeze s cs).T8 o (.row B0 (putAt es i f ds)))
     | true => none
    | _, _ => none
   | _ => none
  | .m7 B0 o g n j f => match s.get o with
   | .obj old => match Nat.ble (f + cs.length) B0.length && Nat.ble (g + n * B0.length) old.length && !holds o cs, Bj [] B0 (S5 B0.length n (old.drop g)), D8 s ((B0.drop f).take cs.length) cs with
    | true, some rows, some ds => some ((freeze s cs).T8 o (.obj (old.take g ++ Ez B0 (putAt rows j f ds) 0 n ++ old.drop (g + n * B0.length))))
    | _, _, _ => none
   | _ => none
  | _ => none
end
section
variable (P : Program) {R : Type}
def Mu (t : TypeId) : Option (List FT) :=
 match P.underlying t with
 | some (.slice e) => match flat P 20 e with
  | some B0 => match Nat.beq B0.length (P.cellsOf e) && !Nat.beq B0.length 0 with
   | true => some B0
   | false => none
  | none => none
 | _ => none
def Lx (place : Nat -> Option (Nat × Nat)) (cells : List UV) : List (Nat × UV) -> Option (List UV)
 | [] => some cells
 | (i, v) :: rest =>
  match place i with
  | none => none
  | some (off, size) =>
   match Nat.beq (I3 v).length size && Nat.ble (off + size) cells.length && (I3 v).all En with
   | true => Lx place (cells.take off ++ I3 v ++ cells.drop (off + size)) rest
   | false => none
def Ue (t : TypeId) (parts : List (Nat × UV)) : Option UV :=
 match Cq P t with
 | some z => match P.underlying t with
  | some (.struct fs) => match fs.toList.all (fun f => (P.info? f.type).isSome) with
   | true => (Lx (fun i => (fs[i]?).map fun f => (f.offset, P.cellsOf f.type)) (I3 z) parts).map .agg
   | false => none
  | some (.array _ e) => match Nat.beq (P.cellsOf e) 0 with
   | true => none
   | false => (Lx (fun i => some (i * P.cellsOf e, P.cellsOf e)) (I3 z) parts).map .agg
  | _ => none
 | none => none
def BJ (t : TypeId) (len : Nat) (parts : List (Nat × UV)) (s : O0) : Option (List FT × List (List D) × List UV) :=
 match P.underlying t, Mu P t with
 | some (.slice e), some B0 => match Cq P e with
  | some z =>
   let n := P.cellsOf e
   match Nat.beq n 0 || !Nat.ble (len * n) (2 ^ 24) with
   | true => none
   | false => match Lx (fun i => some (i * n, n)) (List.flatten (List.replicate len (I3 z))) parts with
    | some cs => match cs.all En, Bj s B0 (S5 n len cs) with
     | true, some es => some (B0, es, cs)
     | _, _ => none
    | none => none
  | none => none
 | _, _ => none
def FA (s : O0) (B0 : List FT) : UV -> Option (List (List D))
 | .nilslice => some []
 | .fz W2 es _ => match FT.F0 B0 W2 with | true => some es | false => none
 | .nn W2 es => match FT.F0 B0 W2 with | true => some es | false => none
 | .own o => match rowOf (s.get o) with
  | some (W2, es) => match FT.F0 B0 W2 with | true => some es | false => none
  | none => none
 | .str x => match B0 with
  | [.int .u8] => some (Hf x)
  | _ => none
 | _ => none
def kV (el : TypeId) (n : Nat) (cs : List UV) : Option (List FT × List (List D)) :=
 match flat P 20 el with
 | some B0 => match Nat.beq B0.length (P.cellsOf el) && Nat.beq cs.length (n * B0.length), Bj [] B0 (S5 B0.length n cs) with
  | true, some rows => some (B0, rows)
  | _, _ => none
 | none => none
def bp {α : Type} : List α -> Bool
 | [] => false
 | _ :: _ => true
def GG (t : TypeId) (x y : UV) (s : O0) (K : UV -> O0 -> Option R) : Option R :=
 match P.underlying t, Mu P t with
 | some (.slice e), some B0 => match Cq P e, FA s B0 y with
  | some _, some ys => match x with
   | .nilslice => cond (fits ys.length (P.bytesOf e)) (K (.own s.len) (s.push (.row B0 ys))) none
   | .own o => match s.get o with
    | .row W2 es => match FT.F0 B0 W2 with
     | true => cond (fits (es.length + ys.length) (P.bytesOf e)) (K (.own s.len) ((s.T8 o .gone).push (.row B0 (es ++ ys)))) none
     | false => none
    | _ => none
   | .fz W2 es true => match FT.F0 B0 W2, bp ys with
    | true, true => cond (fits (es.length + ys.length) (P.bytesOf e)) (K (.own s.len) (s.push (.row B0 (es ++ ys)))) none
    | _, _ => none
   | _ => none
  | _, _ => none
 | _, _ => none
def Uc (s : O0) : UV -> Option Int
 | .nilslice => some 0
 | .fz _ es _ => some (es.length : Nat)
 | .nn _ es => some (es.length : Nat)
 | .own o => match rowOf (s.get o) with
  | some (_, es) => some (es.length : Nat)
  | none => none
 | .str x => some (x.size : Nat)
 | .A3 => some 0
 | .map o => match s.get o with
  | .map _ _ _ es => some (es.length : Nat)
  | _ => none
 | _ => none
def wb : UV -> Bool
 | .nilslice | .fz _ _ _ | .nn _ _ | .own _ => true
 | _ => false
def Iz : UV -> Option Int
 | .int _ n => some n
 | _ => none
def EH (d : Int) : Option UV -> Option Int
 | none => some d
 | some v => Iz v
def Ua (s : O0) : UV -> Option (List FT × List (List D))
 | .fz B0 es _ => some (B0, es)
 | .nn B0 es => some (B0, es)
 | .own o => rowOf (s.get o)
 | _ => none
def Iy (L3 : Nat) (x : UV) (lo hi mx : Option UV) (s : O0) (K : UV -> O0 -> Option R) : Option R :=
 match EH 0 lo with
 | none => none
 | some l => match x with
  | .str b => match EH (b.size : Nat) hi, mx with
   | some g, none => cond (decide (0 <= l /\ l <= g) && H9 g b.size) (K (.str (b.extract l.toNat g.toNat)) s) none
   | _, _ => none
  | .nilslice => match EH 0 hi, EH 0 mx, hi.isSome || mx.isNone with
   | some g, some m, true => cond (decide (l = 0 /\ g = 0 /\ m = 0)) (K .nilslice s) none
   | _, _, _ => none
  | x => match Ua s x with
   | none => none
   | some (B0, es) => match Nat.beq L3 B0.length, EH (es.length : Nat) hi with
    | true, some g => match mx with
     | none => cond (decide (0 <= l /\ l <= g) && H9 g es.length) (K (.fz B0 (part es l.toNat g.toNat) false) (W4 s x)) none
     | some m => match hi, Iz m with
      | some _, some m => cond (decide (0 <= l /\ l <= g) && H9 g es.length && decide (m = g)) (K (.fz B0 (part es l.toNat g.toNat) true) (W4 s x)) none
      | _, _ => none
    | _, _ => none
def uint (op : BinOp) (k : IntKind) (x y : Int) (K : UV -> Option R) : Option R :=
 match op with
 | .add => K (.int k (k.wrap (x + y)))
 | .sub => K (.int k (k.wrap (x - y)))
 | .mul => K (.int k (k.wrap (x * y)))
 | .quo => cond (decide (y = 0)) none (K (.int k (k.wrap (x.tdiv y))))
 | .rem => cond (decide (y = 0)) none (K (.int k (x.tmod y)))
 | .and => K (.int k (k.wrap (BitVec.ofInt k.bits x &&& BitVec.ofInt k.bits y).toNat))
 | .or => K (.int k (k.wrap (BitVec.ofInt k.bits x ||| BitVec.ofInt k.bits y).toNat))
 | .xor => K (.int k (k.wrap (BitVec.ofInt k.bits x ^^^ BitVec.ofInt k.bits y).toNat))
 | .andNot => K (.int k (k.wrap (BitVec.ofInt k.bits x &&& ~~~ (BitVec.ofInt k.bits y)).toNat))
 | .eql => K (.bool (decide (x = y)))
 | .neq => K (.bool (!decide (x = y)))
 | .lss => K (.bool (decide (x < y)))
 | .leq => K (.bool (decide (x <= y)))
 | .gtr => K (.bool (decide (y < x)))
 | .geq => K (.bool (decide (y <= x)))
 | _ => none
def Ub (op : BinOp) (k : IntKind) (x y : Int) (K : UV -> Option R) : Option R :=
 cond (decide (y < 0)) none (match op with
 | .shl => K (.int k (k.wrap (x * 2 ^ (min y.toNat k.bits))))
 | .shr => K (.int k (x.fdiv (2 ^ (min y.toNat k.bits))))
 | _ => none)
def kS (op : BinOp) (x y : ByteArray) (K : UV -> Option R) : Option R :=
 match op with
 | .add => cond (decide (((x.size + y.size : Nat) : Int) <= IntKind.i64.max)) (K (.str (x ++ y))) none
 | .eql => K (.bool (Bi x y))
 | .neq => K (.bool (!Bi x y))
 | .lss => K (.bool (strLt x y))
 | .leq => K (.bool (strLt x y || Bi x y))
 | .gtr => K (.bool (!(strLt x y || Bi x y)))
 | .geq => K (.bool (!strLt x y))
 | _ => none
def kT : (depth : Nat) -> TypeId -> UV -> UV -> Option Bool
 | 0, _, _, _ => none
 | d + 1, t, x, y =>
  match P.underlying t, x, y with
  | some .bool, .bool a, .bool b => some (a == b)
  | some (.int _), .int k a, .int k' b => match decide (k = k') with | true => some (decide (a = b)) | false => none
  | some .string, .str a, .str b => some (Bi a b)
  | some (.pointer _), .I2, .I2 => some true
  | some (.pointer _), .I2, .ptr _ _ => some false
  | some (.pointer _), .ptr _ _, .I2 => some false
  | some (.pointer _), .pz _ d, .I2 => some (!d.IJ)
  | some (.pointer _), .I2, .pz _ d => some (!d.IJ)
  | some (.pointer _), .pn _ _ _, .I2 => some false
  | some (.interface _), .I1, .Bn _ _ d => some (!d.IJ)
  | some (.interface _), .Bn _ _ d, .I1 => some (!d.IJ)
  | some (.interface _), .I1, .I1 => some true
  | some (.interface _), .I1, .iface _ _ => some false
  | some (.interface _), .iface _ _, .I1 => some false
  | some (.interface _), .iface tx vx, .iface ty vy =>
   match Nat.beq tx ty with
   | false => some false
   | true => match (P.info? tx).map (·.comparable) with
    | some true => kT d tx vx vy
    | _ => none
  | some (.struct fs), .agg xs, .agg ys =>
   match P.stoodInHeld t with
   | true => none
   | false => fs.toList.foldr (fun f r =>
    match decide (f.name = "_") with
    | true => r
    | false => match Ou P f.type xs f.offset, Ou P f.type ys f.offset, r with
     | some a, some b, some q => (kT d f.type a b).map (· && q)
     | _, _, _ => none) (some true)
  | some (.slice _), .nilslice, .nilslice => some true
  | some (.slice _), .nn _ _, .nilslice => some false
  | some (.slice _), .nilslice, .nn _ _ => some false
  | some (.map _ _), .A3, .A3 => some true
  | some (.map _ _), .A3, .map _ => some false
  | some (.map _ _), .map _, .A3 => some false
  | _, _, _ => none
def la : UV -> Bool
 | .I1 => true
 | .Bn _ _ _ => true
 | _ => false
def Jx (t : TypeId) (x y : Operand) (u v : UV) : Bool :=
 match u, v with
 | .agg _, .agg _ => !(P.eqGuardType P.depth t)
 | u, v => En u && En v && (!(la u && la v) || Fb x || Fb y)
def kU (op : BinOp) (t : TypeId) (ox oy : Operand) (x y : UV) (K : UV -> Option R) : Option R :=
 match x, y with
 | .int k a, .int k' b =>
  match op with
  | .shl | .shr => Ub op k a b K
  | _ => match decide (k = k') with | true => uint op k a b K | false => none
 | .str a, .str b => kS op a b K
 | x, y =>
  match op, Jx P t ox oy x y with
  | .eql, true => match kT P 100 t x y with | some b => K (.bool b) | none => none
  | .neq, true => match kT P 100 t x y with | some b => K (.bool (!b)) | none => none
  | _, _ => none
def sq (op : UnOp) (x : UV) : Option UV :=
 match op, x with
 | .neg, .int k n => some (.int k (k.wrap (0 - n)))
 | .xor, .int k n => some (.int k (k.wrap (BitVec.ofInt k.bits (if k.signed then -1 else k.max) ^^^ BitVec.ofInt k.bits n).toNat))
 | .not, .bool b => some (.bool !b)
 | _, _ => none
def Zv (src dst : TypeId) (x : UV) (s : O0) (K : UV -> O0 -> Option R) : Option R :=
 match P.underlying src, P.underlying dst, x with
 | some (.slice e), some .string, x => match P.underlying e, Mu P src with
  | some (.int .u8), some [.int .u8] => match x with
   | .nilslice => K (.str .empty) s
   | .fz _ _ _ | .own _ => match FA s [.int .u8] x with
    | some es => K (.str (strOf es)) s
    | none => none
   | _ => none
  | _, _ => none
 | some .string, some (.slice e), .str x => match P.underlying e, Mu P dst with
  | some (.int .u8), some [.int .u8] => cond (decide (x.size <= R2)) (K (.own s.len) (s.push (.row [.int .u8] (Hf x)))) none
  | _, _ => none
 | some _, some (.int k), .int _ n => K (.int k (k.wrap n)) s
 | some _, some .string, .str x => K (.str x) s
 | some (.int _), some .string, .int _ n => K (.str (IL n)) s
 | _, _, _ => none
def Zs (b : Builtin) (t : Option TypeId) (xs : List UV) (s : O0) (K : UV -> O0 -> Option R) : Option R :=
 match b, xs with
 | .len, [x] => match t.bind P.underlying, x with
  | some .string, .str b => K (.int .i64 (b.size : Nat)) s
  | some (.slice _), v => match wb v, Uc s v with
   | true, some n => K (.int .i64 n) s
   | _, _ => none
  | some (.array n _), _ => K (.int .i64 (n : Nat)) s
  | some (.map _ _), .A3 => K (.int .i64 0) s
  | some (.map _ _), .map o => match s.get o with
   | .map _ _ _ es => K (.int .i64 (es.length : Nat)) s
   | _ => none
  | _, _ => none
 | .max, [.int k a, .int _ b] => K (.int k (if b > a then b else a)) s
 | .min, [.int k a, .int _ b] => K (.int k (if b < a then b else a)) s
 | _, _ => none
def isAgg : UV -> Bool
 | .agg _ => true
 | _ => false
def Yc (t : TypeId) : Option (TypeId × FT × Bool × List FT × List D) :=
 match P.underlying t with
 | some (.map kt et) =>
  match (match P.underlying kt with | some (.int k) => some (FT.int k) | some .string => some FT.str | _ => none) with
  | some kf => match flat P 20 et, Cq P et with
   | some B0, some z => match D8 [] B0 (I3 z) with
    | some zd => match P.underlying et, isAgg z with
     | some (.struct _), true => some (et, kf, true, B0, zd)
     | some (.array _ _), true => some (et, kf, true, B0, zd)
     | some (.struct _), false => none
     | some (.array _ _), false => none
     | some _, false => some (et, kf, false, B0, zd)
     | _, _ => none
    | none => none
   | _, _ => none
  | none => none
 | _ => none
def UY (ok : Bool) (v : UV) (is : Bool) : UV := match ok with | true => .tuple [v, .bool is] | false => v
def QA (t : TypeId) (m key : UV) (ok : Bool) (s : O0) (K : UV -> O0 -> Option R) : Option R :=
 match Yc P t with
 | some (et, kf, ag, B0, zd) => match DS s kf key with
  | some kd => match m with
   | .A3 => match Cq P et with
    | some z => K (UY ok z false) s
    | none => none
   | .map o => match s.get o with
    | .map bo rq W2 es => match FT.same kf bo && (ag == rq && FT.F0 B0 W2) with
     | true => match DQ P et (L9 0 B0 (W3 es kd zd)) with
      | some v => K (UY ok v (JN es kd)) s
      | none => none
     | false => none
    | _ => none
   | _ => none
  | none => none
 | none => none
def Dv (t : TypeId) (m key val : UV) (s : O0) (K : UV -> O0 -> Option R) : Option R :=
 match Yc P t, m with
 | some (_, kf, ag, B0, _), .map o => match s.get o, DS s kf key, D8 s B0 (I3 val) with
  | .map bo rq W2 es, some kd, some ds => match FT.same kf bo && (ag == rq && FT.F0 B0 W2) && (ag == isAgg val && (I3 val).all En) with
   | true => K .undef ((freeze s (I3 val)).T8 o (.map kf ag B0 (CQ es kd ds)))
   | false => none
  | _, _, _ => none
 | _, _ => none
def LK (t : TypeId) (m key : UV) (s : O0) (K : UV -> O0 -> Option R) : Option R :=
 match Yc P t, m with
 | some (_, kf, _, _, _), .map o => match s.get o, DS s kf key with
  | .map bo ag B0 es, some kd => match FT.same kf bo with
   | true => K (.tuple []) (s.T8 o (.map kf ag B0 (VQ es kd)))
   | false => none
  | _, _ => none
 | _, _ => none
def Lz (c : Call) (xs : List UV) (s : O0) (K : UV -> O0 -> Option R) : Option R :=
 match c.callee with
 | .builtin .append => match xs, c.argTypes[0]?, c.argTypes[1]? with
  | [x, y], some t, some u => match P.underlying u with
   | some (.slice _) => GG P t x y s K
   | some .string => GG P t x y s K
   | _ => none
  | _, _, _ => none
 | .builtin .delete => match xs, c.argTypes[0]? with
  | [m, k], some t => LK P t m k s K
  | _, _ => none
 | .builtin b => Zs P b c.argTypes[0]? xs s K
 | _ => none
def Ox (t : TypeId) (ok : Bool) (s : O0) (K : UV -> O0 -> Option R) : Option R :=
 match ok with
 | true => match Cq P t with
  | some z => K (.tuple [z, .bool false]) s
  | none => none
 | false => none
def Zo (ok : Bool) (v : UV) : UV := match ok with | true => .tuple [v, .bool true] | false => v
def QC (t : TypeId) (ok : Bool) (x : UV) (s : O0) (K : UV -> O0 -> Option R) : Option R :=
 match P.underlying t with
 | some (.interface _) => none
 | some _ => match x with
  | .iface t' v => match Nat.beq t' t with
   | true => K (Zo ok v) s
   | false => Ox P t ok s K
  | .I1 => Ox P t ok s K
  | .Bn ts B0 d => match Fa ts B0 t with
   | some ft => cond (KB t d) (K (Zo ok (ja ft (qE d))) s) (Ox P t ok s K)
   | none => Ox P t ok s K
  | _ => none
 | none => none
def ZU (o : Oper) (e : R1) (s : O0) (K : UV -> O0 -> Option R) : Option R :=
 match o.op with
 | .move x | .assign x => K (F7 e x) s
 | .pick c a b => match F7 e c with
  | .bool p => cond p (K (F7 e a) s) (K (F7 e b) s)
  | _ => none
 | .alloc t => match Cq P t, Nat.beq (P.cellsOf t) 0 with
  | some z, false => K (.ptr s.len 0) (s.push (.obj (I3 z)))
  | _, _ => none
 | .box t x =>
  match Nat.beq (I3 (F7 e x)).length (P.cellsOf t) && !Nat.beq (P.cellsOf t) 0 && (I3 (F7 e x)).all En with
  | true => K (.ptr s.len 0) (s.push (.obj (I3 (F7 e x))))
  | false => none
 | .build t parts => match Ue P t (parts.toList.map fun (i, x) => (i, F7 e x)) with
  | some v => K v s
  | none => none
 | .buildSlice t len parts => match BJ P t len (parts.toList.map fun (i, x) => (i, F7 e x)) s with
  | some (B0, es, cs) => K (.own s.len) ((freeze s cs).push (.row B0 es))
  | none => none
 | .load t a => match Hy P t s (F7 e a) with
  | some v => K v s
  | none => none
 | .store t a x => match Pw P t s (F7 e a) (F7 e x) with
  | some s' => K .undef s'
  | none => none
 | .nilCheck x => match F7 e x with
  | .ptr o f => K (.ptr o f) s
  | .u7 o i f => K (.u7 o i f) s
  | .m7 B0 o g n j f => K (.m7 B0 o g n j f) s
  | .AX B0 es i f => K (.AX B0 es i f) s
  | .pz B0 d => cond d.IJ (K (.pn B0 (Vl d) 0) s) none
  | .pn B0 ds f => K (.pn B0 ds f) s
  | .Bn ts B0 d => cond d.IJ (K (.Bn ts B0 d) s) none
  | .iface t v => K (.iface t v) s
  | _ => none
 | .binOp op t x y _ => kU P op t x y (F7 e x) (F7 e y) (K · s)
 | .unOp op _ x => match sq op (F7 e x) with
  | some v => K v s
  | none => none
 | .convert src dst x => Zv P src dst (F7 e x) s K
 | .makeInterface t x => match P.underlying t with
  | some (.interface _) => none
  | some _ => K (.iface t (F7 e x)) s
  | none => none
 | .makeMap t none => match Yc P t with
  | some (_, kf, ag, B0, _) => K (.map s.len) (s.push (.map kf ag B0 []))
  | none => none
 | .lookup t m k ok => QA P t (F7 e m) (F7 e k) ok s K
 | .mapUpdate t m k x => Dv P t (F7 e m) (F7 e k) (F7 e x) s K
 | .insert t m k x => Dv P t (F7 e m) (F7 e k) (F7 e x) s K
 | .makeSlice t l c => match P.underlying t, Mu P t, Iz (F7 e l), Iz (F7 e c) with
  | some (.slice el), some B0, some l, some c => match Cq P el with
   | some z => match D8 s B0 (I3 z) with
    | some zd => cond (decide (0 <= l /\ l <= c) && fits c.toNat (P.bytesOf el)) (K (.own s.len) ((freeze s (I3 z)).push (.row B0 (List.replicate l.toNat zd)))) none
    | none => none
   | none => none
  | _, _, _, _ => none
 | .slice t x lo hi mx => match P.underlying t, F7 e x with
  | some .string, .str b => Iy 0 (.str b) (lo.map (F7 e)) (hi.map (F7 e)) (mx.map (F7 e)) s K
  | some (.slice _), .str _ => none
  | some (.slice el), x => match Nat.beq (P.cellsOf el) 0 with
   | true => none
   | false => match lo, (hi.map (F7 e)).bind Iz, (mx.map (F7 e)).bind Iz, Ua s x with
    | none, some gh, some gm, some (B0, _) => match Nat.beq (P.cellsOf el) B0.length with
     | true => cond (decide (gh = 0) && decide (gm = 0)) (K (.own s.len) ((W4 s x).push (.row B0 []))) (Iy (P.cellsOf el) x (lo.map (F7 e)) (hi.map (F7 e)) (mx.map (F7 e)) s K)
     | false => none
    | _, _, _, _ => Iy (P.cellsOf el) x (lo.map (F7 e)) (hi.map (F7 e)) (mx.map (F7 e)) s K
  | _, _ => none
 | .fieldAddr st x f => match P.underlying st, F7 e x with
  | some (.struct fs), v => match fs[f]? with
   | some fd => match Nat.beq (P.cellsOf fd.type) 0 with
    | true => none
    | false => match v with
     | .ptr o g => K (.ptr o (g + fd.offset)) s
     | .u7 o i g => K (.u7 o i (g + fd.offset)) s
     | .m7 B0 o g n j f => K (.m7 B0 o g n j (f + fd.offset)) s
     | .AX B0 es i g => K (.AX B0 es i (g + fd.offset)) s
     | .pz B0 d => cond d.IJ (K (.pn B0 (Vl d) fd.offset) s) none
     | .pn B0 ds g => K (.pn B0 ds (g + fd.offset)) s
     | _ => none
   | none => none
  | _, _ => none
 | .field st x f => match P.underlying st, F7 e x with
  | some (.struct fs), .agg cs => match fs[f]? with
   | some fd => match Ou P fd.type cs fd.offset with
    | some v => K v s
    | none => none
   | none => none
  | _, _ => none
 | .indexAddr t x ix => match P.underlying t, F7 e x, Iz (F7 e ix) with
  | some (.slice el), .own o, some j => match rowOf (s.get o) with
   | some (B0, es) => match Nat.beq (P.cellsOf el) B0.length with
    | true => cond (within j es.length) (K (.u7 o j.toNat 0) s) none
    | false => none
   | none => none
  | some (.slice el), .fz B0 es _, some j => match Nat.beq (P.cellsOf el) B0.length with
   | true => cond (within j es.length) (K (.AX B0 es j.toNat 0) s) none
   | false => none
  | some (.array n el), .ptr o f, some j => match Nat.beq (P.cellsOf el) 0, flat P 20 el with
   | false, some B0 => match Nat.beq B0.length (P.cellsOf el) with
    | true => cond (within j n) (K (.m7 B0 o f n j.toNat 0) s) none
    | false => none
   | _, _ => none
  | _, _, _ => none
 | .index t x ix => match P.underlying t, F7 e x, Iz (F7 e ix) with
  | some .string, .str b, some j => cond (within j b.size) (K (.int .u8 (Vr b j.toNat)) s) none
  | some (.array n el), .agg cs, some j => match kV P el n cs with
   | some (B0, rows) => match DQ P el (L9 0 B0 (elem j.toNat rows)) with
    | some v => cond (within j n) (K v s) none
    | none => none
   | none => none
  | _, _, _ => none
 | .typeAssert x _ t ok => QC P t ok (F7 e x) s K
 | .extract x i => match F7 e x with
  | .tuple vs => match vs[i]? with
   | some v => K v s
   | none => none
  | _ => none
 | .call cl => Lz P cl (AZ e cl.args) s K
 | _ => none
end
theorem GN : ∀ (x y : List Nat), EK x y = true -> x = y
 | [], [], _ => rfl
 | a :: x, b :: y, h => by
  simp only [EK, Bool.and_eq_true] at h
  rw [B6 h.1, GN x y h.2]
 | [], _ :: _, h | _ :: _, [], h => by simp [EK] at h
mutual
theorem FT.Cu : ∀ (a b : FT), FT.same a b = true -> a = b
 | .bool, .bool, _ => rfl
 | .int j, .int k, h => by simp only [FT.same, decide_eq_true_eq] at h; rw [h]
 | .str, .str, _ => rfl
 | .row a x, .row b y, h => by
  simp only [FT.same, Bool.and_eq_true] at h
  rw [B6 h.1, FT.J0 x y h.2]
 | .ptr x, .ptr y, h => by simp only [FT.same] at h; rw [FT.J0 x y h]
 | .EN t x, .EN u y, h => by
  simp only [FT.same, Bool.and_eq_true] at h
  rw [GN t u h.1, FT.J0 x y h.2]
 | .bool, .int _, h | .bool, .str, h | .bool, .row _ _, h | .bool, .ptr _, h | .bool, .EN _ _, h | .int _, .bool, h | .int _, .str, h | .int _, .row _ _, h | .int _, .ptr _, h | .int _, .EN _ _, h | .str, .bool, h | .str, .int _, h | .str, .row _ _, h | .str, .ptr _, h | .str, .EN _ _, h
 | .row _ _, .bool, h | .row _ _, .int _, h | .row _ _, .str, h | .row _ _, .ptr _, h | .row _ _, .EN _ _, h | .ptr _, .bool, h | .ptr _, .int _, h | .ptr _, .str, h | .ptr _, .row _ _, h | .ptr _, .EN _ _, h | .EN _ _, .bool, h | .EN _ _, .int _, h | .EN _ _, .str, h | .EN _ _, .row _ _, h | .EN _ _, .ptr _, h => by simp [FT.same] at h
theorem FT.J0 : ∀ (x y : List FT), FT.F0 x y = true -> x = y
 | [], [], _ => rfl
 | a :: x, b :: y, h => by
  simp only [FT.F0, Bool.and_eq_true] at h
  rw [FT.Cu a b h.1, FT.J0 x y h.2]
 | [], _ :: _, h | _ :: _, [], h => by simp [FT.F0] at h
end
abbrev VG := Nat -> Option F2
inductive RD (g : VG) (K : Nat -> Prop) : FT -> D -> VV -> Prop
 | bool (b : Bool) : RD g K .bool (.bool b) (.bool b)
 | int (k : IntKind) (n : Int) : RD g K (.int k) (.int n) (.int k n)
 | str (s : ByteArray) : RD g K .str (.str s) (.str s)
 | nil (bytes : Nat) (B0 : List FT) : RD g K (.row bytes B0) .nil .nilslice
 | P5 (bytes : Nat) (B0 : List FT) : RD g K (.row bytes B0) (.row []) .nilslice
 | row (bytes : Nat) (B0 : List FT) (rows : List (List D)) (b i n : Nat) (c : Option Nat) (z : Nat) (k : Es) (hg : g b = some (.cells k)) (hK : K k.Q1) (hz : k.L3 = B0.length) (w6 : z = B0.length) (h0 : 0 < B0.length)
   (hn : n = rows.length) (hlen : i + n <= k.es.length) (hc : ∀ cp, c = some cp -> n <= cp)
   (hl : ∀ (j : Nat) r cs, rows[j]? = some r -> k.es[i + j]? = some cs -> r.length = B0.length /\ cs.length = B0.length)
   (hr : ∀ (j : Nat) r cs, rows[j]? = some r -> k.es[i + j]? = some cs -> ∀ (m : Nat) ft d v, B0[m]? = some ft -> r[m]? = some d -> cs[m]? = some v -> RD g K ft d v) :
   RD g K (.row bytes B0) (.row rows) (.slice b i n c z)
 | YQ (B0 : List FT) : RD g K (.ptr B0) .nil .I2
 | ptr (B0 : List FT) (ds : List D) (b : Nat) (k : Es) (cs : List VV) (hg : g b = some (.cells k)) (hK : K k.Q1) (P8 : k.es = [cs]) (hl : ds.length = B0.length) (Zd : cs.length = B0.length)
   (hr : ∀ (m : Nat) ft d v, B0[m]? = some ft -> ds[m]? = some d -> cs[m]? = some v -> RD g K ft d v) : RD g K (.ptr B0) (.row [ds]) (.ptr b 0 0)
 | OV (ts : List Nat) (B0 : List FT) : RD g K (.EN ts B0) .nil .I1
 | EN (ts : List Nat) (B0 : List FT) (t : Nat) (ft : FT) (d : D) (v : VV) (ht : Fa ts B0 t = some ft) (h : RD g K ft d v) : RD g K (.EN ts B0) (.row [[.int t, d]]) (.iface t v)
structure Cl (g : VG) (K : Nat -> Prop) (B0 : List FT) (ds : List D) (vs : List VV) : Prop where
 len : ds.length = B0.length
 Ar : vs.length = B0.length
 at_ : ∀ (m : Nat) ft d v, B0[m]? = some ft -> ds[m]? = some d -> vs[m]? = some v -> RD g K ft d v
theorem Cl.nil (g : VG) (K : Nat -> Prop) : Cl g K [] [] [] := ⟨rfl, rfl, by simp⟩
theorem Cl.cons {g : VG} {K : Nat -> Prop} {ft : FT} {d : D} {v : VV} {B0 : List FT} {ds : List D} {vs : List VV} (h : RD g K ft d v) (k : Cl g K B0 ds vs) : Cl g K (ft :: B0) (d :: ds) (v :: vs) := by
 refine ⟨by simp [k.len], by simp [k.Ar], fun j a b c h1 h2 h3 => ?_⟩
 cases j with
 | zero => simp at h1 h2 h3; subst h1; subst h2; subst h3; exact h
 | succ j => simp at h1 h2 h3; exact k.at_ j a b c h1 h2 h3
theorem Cl.head {g : VG} {K : Nat -> Prop} {ft : FT} {d : D} {v : VV} {B0 : List FT} {ds : List D} {vs : List VV} (k : Cl g K (ft :: B0) (d :: ds) (v :: vs)) : RD g K ft d v := k.at_ 0 _ _ _ rfl rfl rfl
theorem Cl.tail {g : VG} {K : Nat -> Prop} {ft : FT} {d : D} {v : VV} {B0 : List FT} {ds : List D} {vs : List VV} (k : Cl g K (ft :: B0) (d :: ds) (v :: vs)) : Cl g K B0 ds vs :=
 ⟨by simpa using k.len, by simpa using k.Ar, fun m a b c h1 h2 h3 => k.at_ (m + 1) a b c (by simpa using h1) (by simpa using h2) (by simpa using h3)⟩
structure Fv (g : VG) (K : Nat -> Prop) (B0 : List FT) (rows : List (List D)) (es : List (List VV)) (i : Nat) : Prop where
 len : i + rows.length <= es.length
 at_ : ∀ (j : Nat) r cs, rows[j]? = some r -> es[i + j]? = some cs -> Cl g K B0 r cs
theorem RD.Uq {g : VG} {K : Nat -> Prop} {bytes : Nat} {B0 : List FT} {rows : List (List D)} {b i n : Nat} {c : Option Nat} {z : Nat} (h : RD g K (.row bytes B0) (.row rows) (.slice b i n c z)) :
  ∃ k, g b = some (.cells k) /\ K k.Q1 /\ k.L3 = B0.length /\ z = B0.length /\ 0 < B0.length /\ n = rows.length /\ (∀ cp, c = some cp -> n <= cp) /\ Fv g K B0 rows k.es i := by
 cases h with
 | row bytes B0 rows b i n c z k hg hK hz w6 h0 hn hlen hc hl hr =>
  exact ⟨k, hg, hK, hz, w6, h0, hn, hc, ⟨by omega, fun j r cs h1 h2 => ⟨(hl j r cs h1 h2).1, (hl j r cs h1 h2).2, hr j r cs h1 h2⟩⟩⟩
theorem RD.VH {g : VG} {K : Nat -> Prop} (bytes : Nat) {B0 : List FT} {rows : List (List D)} {b i n : Nat} {c : Option Nat} {z : Nat} {k : Es} (hg : g b = some (.cells k)) (hK : K k.Q1) (hz : k.L3 = B0.length) (w6 : z = B0.length) (h0 : 0 < B0.length)
  (hn : n = rows.length) (hc : ∀ cp, c = some cp -> n <= cp) (hs : Fv g K B0 rows k.es i) : RD g K (.row bytes B0) (.row rows) (.slice b i n c z) :=
 .row bytes B0 rows b i n c z k hg hK hz w6 h0 hn (by have := hs.len; omega) hc (fun j r cs h1 h2 => ⟨(hs.at_ j r cs h1 h2).len, (hs.at_ j r cs h1 h2).Ar⟩) (fun j r cs h1 h2 => (hs.at_ j r cs h1 h2).at_)
theorem RD.WT {g : VG} {K : Nat -> Prop} {B0 : List FT} {ds : List D} {b : Nat} (h : RD g K (.ptr B0) (.row [ds]) (.ptr b 0 0)) : ∃ k, g b = some (.cells k) /\ K k.Q1 /\ Fv g K B0 [ds] k.es 0 := by
 cases h with
 | ptr B0 ds b k cs hg hK P8 hl Zd hr =>
  refine ⟨k, hg, hK, by rw [P8]; simp, fun j r xs h1 h2 => ?_⟩
  rw [P8] at h2
  cases j with
  | zero => simp at h1 h2; subst h1; subst h2; exact ⟨hl, Zd, hr⟩
  | succ j => simp at h1
structure Ae (g : VG) (K : Nat -> Prop) (g' : VG) (K' : Nat -> Prop) : Prop where
 row : ∀ b k, g b = some (.cells k) -> K k.Q1 -> g' b = some (.cells k)
 K : ∀ f, K f -> K' f
theorem Ae.refl (g : VG) (K : Nat -> Prop) : Ae g K g K := ⟨fun _ _ h _ => h, fun _ h => h⟩
theorem Ae.trans {g g1 g2 : VG} {K K1 K2 : Nat -> Prop} (h : Ae g K g1 K1) (k : Ae g1 K1 g2 K2) : Ae g K g2 K2 :=
 ⟨fun b kb h1 h2 => k.row b kb (h.row b kb h1 h2) (h.K _ h2), fun f hf => k.K f (h.K f hf)⟩
theorem RD.keep {g g' : VG} {K K' : Nat -> Prop} (hk : Ae g K g' K') {ft : FT} {d : D} {v : VV} (h : RD g K ft d v) : RD g' K' ft d v := by
 induction h with
 | bool b => exact .bool b
 | int k n => exact .int k n
 | str s => exact .str s
 | nil bytes B0 => exact .nil bytes B0
 | P5 bytes B0 => exact .P5 bytes B0
 | row bytes B0 rows b i n c z k hg hK hz w6 h0 hn hlen hc hl hr ih => exact .row bytes B0 rows b i n c z k (hk.row b k hg hK) (hk.K _ hK) hz w6 h0 hn hlen hc hl ih
 | YQ B0 => exact .YQ B0
 | ptr B0 ds b k cs hg hK P8 hl Zd hr ih => exact .ptr B0 ds b k cs (hk.row b k hg hK) (hk.K _ hK) P8 hl Zd ih
 | OV ts B0 => exact .OV ts B0
 | EN ts B0 t ft d v ht h ih => exact .EN ts B0 t ft d v ht ih
theorem Cl.keep {g g' : VG} {K K' : Nat -> Prop} (hk : Ae g K g' K') {B0 : List FT} {ds : List D} {vs : List VV} (h : Cl g K B0 ds vs) : Cl g' K' B0 ds vs :=
 ⟨h.len, h.Ar, fun m a b c h1 h2 h3 => (h.at_ m a b c h1 h2 h3).keep hk⟩
theorem Fv.keep {g g' : VG} {K K' : Nat -> Prop} (hk : Ae g K g' K') {B0 : List FT} {rows : List (List D)} {es : List (List VV)} {i : Nat} (h : Fv g K B0 rows es i) : Fv g' K' B0 rows es i :=
 ⟨h.len, fun j r cs a b => (h.at_ j r cs a b).keep hk⟩
theorem RD.one {g : VG} {K : Nat -> Prop} {ft : FT} {d : D} {v : VV} (h : RD g K ft d v) : H2 v = true := by cases h <;> rfl
theorem Cl.one {g : VG} {K : Nat -> Prop} {B0 : List FT} {ds : List D} {vs : List VV} (h : Cl g K B0 ds vs) : vs.all H2 = true := by
 rw [List.all_eq_true]
 intro v hv
 obtain ⟨m, hm⟩ := List.getElem?_of_mem hv
 have R3 : m < vs.length := (List.getElem?_eq_some_iff.1 hm).1
 have h1 : m < B0.length := by rw [<- h.Ar]; exact R3
 have h2 : m < ds.length := by rw [h.len]; exact h1
 exact (h.at_ m _ _ v (List.getElem?_eq_getElem h1) (List.getElem?_eq_getElem h2) hm).one
structure Cx where
 n : Nat
 ρ : Nat -> VV
 K : Nat -> Prop
 φ : Nat -> Nat -> Prop
def one (f : Nat) : Nat -> Prop := fun x => x = f
def BF : Nat -> Prop := fun _ => False
theorem L5 {A : Nat -> Prop} {f : Nat} (h : A = one f) : A f := by rw [h]; rfl
theorem oneOf {A : Nat -> Prop} {f x : Nat} (h : A = one f) (hx : A x) : x = f := by rw [h] at hx; exact hx
theorem NK {A : Nat -> Prop} {x : Nat} (h : A = BF) (hx : A x) : False := by rw [h] at hx; exact hx
inductive RV (c : Cx) (vg : VG) : UV -> VV -> Prop
 | undef (v : VV) : RV c vg .undef v
 | bool (b : Bool) : RV c vg (.bool b) (.bool b)
 | int (k : IntKind) (n : Int) : RV c vg (.int k n) (.int k n)
 | str (s : ByteArray) : RV c vg (.str s) (.str s)
 | I2 : RV c vg .I2 .I2
 | ptr (o f b : Nat) (ho : o < c.n) (h : c.ρ o = .ptr b 0 0) : RV c vg (.ptr o f) (.ptr b 0 f)
 | u7 (o i f b i0 n : Nat) (cp : Option Nat) (z : Nat) (ho : o < c.n) (h : c.ρ o = .slice b i0 n cp z) (hi : i < n) : RV c vg (.u7 o i f) (.ptr b (i0 + i) f)
 | m7 (B0 : List FT) (o g n j f b : Nat) (ho : o < c.n) (h : c.ρ o = .ptr b 0 0) (hj : j < n) : RV c vg (.m7 B0 o g n j f) (.ptr b 0 (g + j * B0.length + f))
 | AX (B0 : List FT) (es : List (List D)) (i f b i0 n : Nat) (cp : Option Nat) (z : Nat) (h : RD vg c.K (.row 0 B0) (.row es) (.slice b i0 n cp z)) (hi : i < n) : RV c vg (.AX B0 es i f) (.ptr b (i0 + i) f)
 | nilslice : RV c vg .nilslice .nilslice
 | own (o : Nat) (v : VV) (ho : o < c.n) (h : c.ρ o = v) (hv : v = .nilslice \/ ∃ b i n cp z, v = .slice b i n cp z) : RV c vg (.own o) v
 | fz (B0 : List FT) (es : List (List D)) (cut : Bool) (v : VV) (h : RD vg c.K (.row 0 B0) (.row es) v) (hc : cut = true -> v = .nilslice \/ ∃ b i n z, v = .slice b i n (some n) z) : RV c vg (.fz B0 es cut) v
 | nn (B0 : List FT) (es : List (List D)) (v : VV) (h : RD vg c.K (.row 0 B0) (.row es) v) (hv : ∃ b i n cp z, v = .slice b i n cp z) : RV c vg (.nn B0 es) v
 | A3 : RV c vg .A3 .A3
 | map (o b : Nat) (ho : o < c.n) (h : c.ρ o = .map b) : RV c vg (.map o) (.map b)
 | D3 : RV c vg .D3 .D3
 | func (f : FuncId) : RV c vg (.func f) (.func (.func f) [] [])
 | pz (B0 : List FT) (d : D) (v : VV) (h : RD vg c.K (.ptr B0) d v) : RV c vg (.pz B0 d) v
 | pn (B0 : List FT) (ds : List D) (f b : Nat) (h : RD vg c.K (.ptr B0) (.row [ds]) (.ptr b 0 0)) : RV c vg (.pn B0 ds f) (.ptr b 0 f)
 | Bn (ts : List Nat) (B0 : List FT) (d : D) (v : VV) (h : RD vg c.K (.EN ts B0) d v) : RV c vg (.Bn ts B0 d) v
 | I1 : RV c vg .I1 .I1
 | X0 (o : Nat) (v : VV) (ps : List VV) (ho : o < c.n) (h : c.ρ o = .tuple (v :: ps)) (hv : v = .nilslice \/ ∃ b i n cp z, v = .slice b i n cp z) : RV c vg (.X0 o) v
 | pe (o i b i0 n : Nat) (cp : Option Nat) (z : Nat) (ps : List VV) (ho : o < c.n) (h : c.ρ o = .tuple (.slice b i0 n cp z :: ps)) (hi : i < n) : RV c vg (.pe o i) (.ptr b (i0 + i) 0)
 | pp (o i b : Nat) (sv : VV) (ps : List VV) (ho : o < c.n) (h : c.ρ o = .tuple (sv :: ps)) (hp : ps[i]? = some (.ptr b 0 0)) : RV c vg (.pp o i) (.ptr b 0 0)
 | iface (t : TypeId) (u : UV) (v : VV) (h : RV c vg u v) : RV c vg (.iface t u) (.iface t v)
 | agg (us : List UV) (vs : List VV) (hl : us.length = vs.length) (h : ∀ (i : Nat) u v, us[i]? = some u -> vs[i]? = some v -> RV c vg u v) : RV c vg (.agg us) (.agg vs)
 | tuple (us : List UV) (vs : List VV) (hl : us.length = vs.length) (h : ∀ (i : Nat) u v, us[i]? = some u -> vs[i]? = some v -> RV c vg u v) : RV c vg (.tuple us) (.tuple vs)
def E4 (c : Cx) (g : VG) (us : List UV) (vs : List VV) : Prop := us.length = vs.length /\ ∀ (i : Nat) u v, us[i]? = some u -> vs[i]? = some v -> RV c g u v
theorem E4.nil (c : Cx) (g : VG) : E4 c g [] [] := ⟨rfl, by simp⟩
theorem E4.cons {c : Cx} {g : VG} {u : UV} {v : VV} {us : List UV} {vs : List VV} (h : RV c g u v) (k : E4 c g us vs) : E4 c g (u :: us) (v :: vs) := by
 refine ⟨by simp [k.1], fun i a b ha hb => ?_⟩
 cases i with
 | zero => simp at ha hb; subst ha; subst hb; exact h
 | succ i => simp at ha hb; exact k.2 i a b ha hb
theorem E4.head {c : Cx} {g : VG} {u : UV} {v : VV} {us : List UV} {vs : List VV} (h : E4 c g (u :: us) (v :: vs)) : RV c g u v := h.2 0 u v rfl rfl
theorem E4.tail {c : Cx} {g : VG} {u : UV} {v : VV} {us : List UV} {vs : List VV} (h : E4 c g (u :: us) (v :: vs)) : E4 c g us vs :=
 ⟨by simpa using h.1, fun i a b ha hb => h.2 (i + 1) a b (by simpa using ha) (by simpa using hb)⟩
theorem E4.take {c : Cx} {g : VG} {us : List UV} {vs : List VV} (h : E4 c g us vs) (n : Nat) : E4 c g (us.take n) (vs.take n) := by
 refine ⟨by simp [h.1], fun i v v' ha hb => ?_⟩
 rw [List.getElem?_take] at ha hb
 split at ha
 ·rename_i hi; rw [if_pos hi] at hb; exact h.2 i v v' ha hb
 ·cases ha
theorem E4.drop {c : Cx} {g : VG} {us : List UV} {vs : List VV} (h : E4 c g us vs) (n : Nat) : E4 c g (us.drop n) (vs.drop n) := by
 refine ⟨by simp [h.1], fun i v v' ha hb => ?_⟩
 rw [List.getElem?_drop] at ha hb
 exact h.2 _ v v' ha hb
theorem E4.append {c : Cx} {g : VG} {x y : List UV} {x' y' : List VV} (h : E4 c g x x') (k : E4 c g y y') : E4 c g (x ++ y) (x' ++ y') := by
 refine ⟨by simp [h.1, k.1], fun i a b ha hb => ?_⟩
 by_cases hi : i < x.length
 ·rw [List.getElem?_append_left hi] at ha
  rw [List.getElem?_append_left (by rw [<- h.1]; exact hi)] at hb
  exact h.2 i a b ha hb
 ·rw [List.getElem?_append_right (by omega)] at ha
  rw [List.getElem?_append_right (by rw [<- h.1]; omega)] at hb
  rw [<- h.1] at hb
  exact k.2 _ a b ha hb
theorem RV.OB {c : Cx} {g : VG} {us : List UV} {vs : List VV} (h : E4 c g us vs) : RV c g (.agg us) (.agg vs) := .agg us vs h.1 h.2
theorem RV.tuple' {c : Cx} {g : VG} {us : List UV} {vs : List VV} (h : E4 c g us vs) : RV c g (.tuple us) (.tuple vs) := .tuple us vs h.1 h.2
theorem RV.cells {c : Cx} {g : VG} {u : UV} {v : VV} (h : RV c g u v) (hu : u ≠ .undef) : E4 c g (I3 u) (C1 v) := by
 have one : ∀ {u : UV} {v : VV}, RV c g u v -> E4 c g [u] [v] := fun h => E4.cons h (E4.nil c g)
 cases h with
 | undef v => exact absurd rfl hu
 | agg us vs hl h => exact ⟨hl, h⟩
 | own o v ho h hv =>
  have : C1 v = [v] := by rcases hv with rfl | ⟨b, i, n, cp, z, rfl⟩ <;> rfl
  rw [this]; exact one (.own o v ho h hv)
 | fz B0 es cut v h hc =>
  have : C1 v = [v] := by cases h <;> rfl
  rw [this]; exact one (.fz B0 es cut v h hc)
 | nn B0 es v h hv =>
  have : C1 v = [v] := by cases h <;> rfl
  rw [this]; exact one (.nn B0 es v h hv)
 | bool b => exact one (.bool b)
 | int k n => exact one (.int k n)
 | str s => exact one (.str s)
 | I2 => exact one .I2
 | ptr o f b ho h => exact one (.ptr o f b ho h)
 | u7 o i f b i0 n cp z ho h hi => exact one (.u7 o i f b i0 n cp z ho h hi)
 | m7 B0 o g n j f b ho h hj => exact one (.m7 B0 o g n j f b ho h hj)
 | AX B0 es i f b i0 n cp z h hi => exact one (.AX B0 es i f b i0 n cp z h hi)
 | nilslice => exact one .nilslice
 | pz B0 d v h =>
  have : C1 v = [v] := by cases h <;> rfl
  rw [this]; exact one (.pz B0 d v h)
 | pn B0 ds f b h => exact one (.pn B0 ds f b h)
 | Bn ts B0 d v h =>
  have : C1 v = [v] := by cases h <;> rfl
  rw [this]; exact one (.Bn ts B0 d v h)
 | A3 => exact one .A3
 | map o b ho h => exact one (.map o b ho h)
 | D3 => exact one .D3
 | func f => exact one (.func f)
 | I1 => exact one .I1
 | X0 o v ps ho h hv =>
  have : C1 v = [v] := by rcases hv with rfl | ⟨b, i, n, cp, z, rfl⟩ <;> rfl
  rw [this]; exact one (.X0 o v ps ho h hv)
 | pe o i b i0 n cp z ps ho h hi => exact one (.pe o i b i0 n cp z ps ho h hi)
 | pp o i b sv ps ho h hp => exact one (.pp o i b sv ps ho h hp)
 | iface t u v h => exact one (.iface t u v h)
 | tuple us vs hl h => exact one (.tuple us vs hl h)
theorem RV.one {c : Cx} {g : VG} {u : UV} {v : VV} (h : RV c g u v) (hu : En u = true) : H2 v = true := by
 cases h with
 | own o v ho h hv => rcases hv with rfl | ⟨b, i, n, cp, z, rfl⟩ <;> rfl
 | fz B0 es cut v h hc => exact h.one
 | nn B0 es v h hv => exact h.one
 | pz B0 d v h => exact h.one
 | Bn ts B0 d v h => exact h.one
 | X0 o v ps ho h hv => rcases hv with rfl | ⟨b, i, n, cp, z, rfl⟩ <;> rfl
 | undef v => cases hu
 | agg us vs hl h => cases hu
 | tuple us vs hl h => cases hu
 | _ => rfl
theorem E4.one {c : Cx} {g : VG} {us : List UV} {vs : List VV} (h : E4 c g us vs) (hu : us.all En = true) : vs.all H2 = true := by
 rw [List.all_eq_true]
 intro v hv
 obtain ⟨m, hm⟩ := List.getElem?_of_mem hv
 have R3 : m < us.length := by rw [h.1]; exact (List.getElem?_eq_some_iff.1 hm).1
 exact (h.2 m _ v (List.getElem?_eq_getElem R3) hm).one (List.all_eq_true.1 hu _ (List.getElem_mem R3))
structure u0 (c : Cx) (h : A0) (c' : Cx) (h' : A0) (T : Nat -> Prop) : Prop where
 n : c.n <= c'.n
 ρ : ∀ o, o < c.n -> c'.ρ o = c.ρ o
 K : ∀ f, c.K f -> c'.K f
 next : h.next <= h'.next
 same : ∀ b o, h.get b = some o -> ¬ T (match o with | .cells k => k.Q1 | .map _ => b) -> h'.get b = some o
 Q1 : ∀ b k, h.get b = some (.cells k) -> ∃ k', h'.get b = some (.cells k') /\ k'.Q1 = k.Q1
 mp : ∀ b es, h.get b = some (.map es) -> ∃ Aw, h'.get b = some (.map Aw)
 Gf : ∀ f, c'.K f -> c.K f \/ h.next <= f \/ ∃ o, c.φ o f
 n8 : ∀ o f, c'.φ o f -> h.next <= f \/ ∃ o, c.φ o f
 Aa : ∀ o f, o < c.n -> c'.φ o f -> c.φ o f
def isKey : FT -> Bool
 | .int _ | .str => true
 | _ => false
def WG (ag : Bool) (v : VV) (xs : List VV) : Prop := match ag with | true => v = .agg xs | false => xs = [v]
structure Af (g : VG) (K : Nat -> Prop) (B0 : List FT) (es : List (List D)) (x : Option Nat) (ps : List VV) (fs : Nat -> Option Nat) : Prop where
 len : ps.length = es.length
 ptr : ∀ (j : Nat) p, ps[j]? = some p -> ∃ b', p = .ptr b' 0 0
 inj : ∀ j j' f, fs j = some f -> fs j' = some f -> j = j'
 out : ∀ j, es.length <= j -> fs j = none
 hole : ∀ j, x = some j -> fs j = none
 at_ : ∀ (j : Nat) r b', es[j]? = some r -> ps[j]? = some (.ptr b' 0 0) -> x ≠ some j -> ∃ k xs, g b' = some (.cells k) /\ fs j = some k.Q1 /\ k.es = [xs] /\ k.L3 = B0.length /\ k.ro = false /\ k.Q2 = true /\ xs.all H2 = true /\ Cl g K B0 r xs
theorem Af.keep {g g' : VG} {K K' : Nat -> Prop} {B0 : List FT} {es : List (List D)} {x : Option Nat} {ps : List VV} {fs : Nat -> Option Nat} (h : Af g K B0 es x ps fs) (hk : Ae g K g' K')
  (hg : ∀ j b k, fs j = some k.Q1 -> g b = some (.cells k) -> g' b = some (.cells k)) : Af g' K' B0 es x ps fs := by
 refine ⟨h.len, h.ptr, h.inj, h.out, h.hole, fun j r b' h1 h2 h3 => ?_⟩
 obtain ⟨k', xs, a1, a2, a3, a4, a5, a6, a7, a8⟩ := h.at_ j r b' h1 h2 h3
 exact ⟨k', xs, hg j b' k' a2 a1, a2, a3, a4, a5, a6, a7, a8.keep hk⟩
inductive RO (c : Cx) (g : VG) : UO -> VV -> (Nat -> Prop) -> Prop
 | obj (cs : List UV) (b : Nat) (k : Es) (xs : List VV) (hg : g b = some (.cells k)) (P8 : k.es = [xs]) (hz : k.L3 = cs.length) (B2 : k.ro = false) (CU : k.Q2 = true) (hx : xs.all H2 = true) (hr : E4 c g cs xs) :
   RO c g (.obj cs) (.ptr b 0 0) (one k.Q1)
 | W7 (B0 : List FT) : RO c g (.row B0 []) .nilslice BF
 | B7 (B0 : List FT) (b i z : Nat) (k : Es) (hg : g b = some (.cells k)) (hK : c.K k.Q1) (hz : k.L3 = B0.length) (w6 : z = B0.length) (h0 : 0 < B0.length) (hi : i <= k.es.length) : RO c g (.row B0 []) (.slice b i 0 (some 0) z) BF
 | row (B0 : List FT) (es : List (List D)) (b i n : Nat) (cp : Option Nat) (z : Nat) (k : Es) (hg : g b = some (.cells k)) (B2 : k.ro = false) (hz : k.L3 = B0.length) (w6 : z = B0.length) (h0 : 0 < B0.length) (hn : n = es.length)
   (AV : ∀ q, cp = some q -> n <= q /\ i + q <= k.es.length) (hs : Fv g c.K B0 es k.es i) : RO c g (.row B0 es) (.slice b i n cp z) (one k.Q1)
 | old (B0 : List FT) (es : List (List D)) (v : VV) (h : RD g c.K (.row 0 B0) (.row es) v) : RO c g (.old B0 es) v BF
 | map (kf : FT) (ag : Bool) (B0 : List FT) (es : List (D × List D)) (b : Nat) (z8 : List (VV × VV)) (hg : g b = some (.map z8)) (hk : isKey kf = true) (hl : z8.length = es.length)
   (h : ∀ (i : Nat) p q, es[i]? = some p -> z8[i]? = some q -> RD g c.K kf p.1 q.1 /\ ∃ xs, WG ag q.2 xs /\ Cl g c.K B0 p.2 xs) : RO c g (.map kf ag B0 es) (.map b) (one b)
 | B8 (B0 : List FT) : RO c g (.p0 B0 [] none) (.tuple [.nilslice]) BF
 | p0 (B0 : List FT) (es : List (List D)) (x : Option Nat) (b i n : Nat) (cp : Option Nat) (z : Nat) (k : Es) (ps : List VV) (fs : Nat -> Option Nat) (hg : g b = some (.cells k)) (B2 : k.ro = false) (hz : k.L3 = 1) (w6 : z = 1) (h0 : 0 < B0.length) (hn : n = es.length)
   (AV : ∀ q, cp = some q -> n <= q /\ i + q <= k.es.length) (U8 : i + n <= k.es.length) (hc : ∀ (j : Nat) p, ps[j]? = some p -> k.es[i + j]? = some [p])
   (hf : ∀ j f, fs j = some f -> f ≠ k.Q1) (hE : Af g c.K B0 es x ps fs) :
   RO c g (.p0 B0 es x) (.tuple (.slice b i n cp z :: ps)) (fun f => f = k.Q1 \/ ∃ j, fs j = some f)
 | X8 (v : VV) : RO c g .X8 v BF
 | gone (v : VV) (hv : ∀ b i f, v ≠ .ptr b i f) : RO c g .gone v BF
structure T3 (c : Cx) (h : A0) (s : O0) : Prop where
 wf : WF h.get h.next
 len : s.len = c.n
 obj : ∀ o, RO c h.get (s.get o) (c.ρ o) (c.φ o)
 Ax : ∀ o o' f, c.φ o f -> c.φ o' f -> o = o'
 EJ : ∀ o f, c.φ o f -> ¬ c.K f
 s8 : ∀ o f, c.φ o f -> f < h.next
 Rc : ∀ f, c.K f -> f < h.next
 Xn : ∀ o, c.n <= o -> c.ρ o = .undef
def Cx.L7 (c : Cx) (f : Nat) : Prop := ∃ o, c.φ o f
def A6 (c : Cx) (g : VG) (e : R1) (e' : Env) : Prop := ∀ t, RV c g (e.get t) (Env.get e' t)
end Go.Proofs.Ythlbahcggmbfaaa.V
