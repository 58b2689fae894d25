import Derived.Test.YthlbahcggmbfaaaBase1
import Derived.StillTail
import Derived.Deep.Slices
import Derived.OpenShut
import Derived.HandedShaped
import Derived.ChangeOld
import Derived.Carry
import Derived.WalkKit
import Derived.ProofKit
set_option linter.unusedVariables false
set_option linter.unusedSimpArgs false

namespace Go.Proofs.Ythlbahcggmbfaaa.V
open Go.RowKit
section
variable {P : Program} {ρ : Ren} {w : World}
theorem findNow_more {kt : TypeId} {key : VV} {mk : Value} (h : keyOK P kt key = true) (hk : RelV ρ key mk) (d : TypeDesc) (hd : P.underlying kt = some d) :
  ∀ (es : List (VV × VV)) (ents : List MapEntry) (r : Option VV) (i0 : Nat), findMap key es = some r → es.length = ents.length →
   (∀ (i : Nat) p m, es[i]? = some p → ents[i]? = some m → RelV ρ p.1 m.key ∧ RelV ρ p.2 m.val) →
   (r = none ∧ Instr.findNow d mk ents i0 = some none ∧ (∀ val, setMap key val es = es ++ [(key, val)]) ∧ delMap key es = es ∧ ∀ m ∈ ents, m.key ≠ mk) ∨
   ∃ i mv m, Instr.findNow d mk ents i0 = some (some (i0 + i, mv)) ∧ ents[i]? = some m ∧ Instr.sameBits 10000 m.key mk = true ∧ (∀ val, setMap key val es = es.set i (key, val)) ∧ delMap key es = es.eraseIdx i ∧ m.key = mk
 | [], ents, r, i0, hf, hl, _ => by
  have : ents = [] := List.eq_nil_of_length_eq_zero hl.symm
  subst this
  simp [findMap] at hf; subst hf
  exact .inl ⟨rfl, rfl, fun _ => rfl, rfl, by simp⟩
 | (k, v) :: es, [], r, i0, hf, hl, _ => by simp at hl
 | (k, v) :: es, m :: ents, r, i0, hf, hl, hrel => by
  obtain ⟨hkm, hvm⟩ := hrel 0 _ _ rfl rfl
  simp only at hkm hvm
  have ih := findNow_more h hk d hd es ents r (i0 + 1)
  have step : ∀ b, Instr.sameNow d mk m.key = some b → (b = true → Instr.sameBits 10000 m.key mk = true ∧ m.key = mk) → (b = false → m.key ≠ mk) → findMap key ((k, v) :: es) = (if b then some (some v) else findMap key es) →
    (∀ val, setMap key val ((k, v) :: es) = if b then (key, val) :: es else (k, v) :: setMap key val es) → delMap key ((k, v) :: es) = (if b then es else (k, v) :: delMap key es) →
    (r = none ∧ Instr.findNow d mk (m :: ents) i0 = some none ∧ (∀ val, setMap key val ((k, v) :: es) = (k, v) :: es ++ [(key, val)]) ∧ delMap key ((k, v) :: es) = (k, v) :: es ∧ ∀ m' ∈ m :: ents, m'.key ≠ mk) ∨
    ∃ i mv m', Instr.findNow d mk (m :: ents) i0 = some (some (i0 + i, mv)) ∧ (m :: ents)[i]? = some m' ∧ Instr.sameBits 10000 m'.key mk = true ∧ (∀ val, setMap key val ((k, v) :: es) = ((k, v) :: es).set i (key, val)) ∧ delMap key ((k, v) :: es) = ((k, v) :: es).eraseIdx i ∧ m'.key = mk := by
   intro b hb hsb hnb h2 h3 h4
   rw [h2] at hf
   cases b with
   | true =>
    exact .inr ⟨0, m.val, m, by simp [Instr.findNow, hb], rfl, (hsb rfl).1, fun val => by rw [h3]; rfl, by rw [h4]; rfl, (hsb rfl).2⟩
   | false =>
    simp only [Bool.false_eq_true, if_false] at hf h3 h4
    rcases ih hf (by simpa using hl) (fun i p q a b => hrel (i + 1) p q (by simpa using a) (by simpa using b)) with ⟨q1, q2, q3, q4, q5⟩ | ⟨i, mv, m', q1, q2, q3, q4, q5, q6⟩
    ·exact .inl ⟨q1, by simp [Instr.findNow, hb, q2], fun val => by rw [h3, q3]; rfl, by rw [h4, q4], fun m' hm => by
      rcases List.mem_cons.1 hm with rfl | hm
      ·exact hnb rfl
      ·exact q5 m' hm⟩
    ·exact .inr ⟨i + 1, mv, m', by simp [Instr.findNow, hb, q1]; omega, by simpa using q2, q3, fun val => by rw [h3, q4]; rfl, by rw [h4, q5]; rfl, q6⟩
  unfold keyOK at h
  rw [hd] at h
  split at h
  ·rename_i k' kk n hkt
   simp only [Option.some.injEq] at hkt; subst hkt
   cases hk
   cases k <;> first | (simp only [findMap] at hf; cases hf; done) | skip
   rename_i kb y
   have hk2 : m.key = .int kb y := by generalize m.key = q at hkm; cases hkm; rfl
   by_cases hkk : kk = kb
   ·subst hkk
    refine step (n == y) (by rw [hk2]; simp [Instr.sameNow]) (fun e => ?_) (fun e => ?_) ?_ (fun val => ?_) ?_
    ·have e : n = y := by simpa using e
     subst e
     rw [hk2]; simp [Instr.sameBits]
    ·have e : ¬ n = y := by simpa using e
     rw [hk2]; intro h; cases h; exact e rfl
    ·simp only [findMap, if_true]; by_cases e2 : n = y <;> simp [e2]
    ·simp only [setMap]; by_cases e2 : n = y <;> simp [e2]
    ·simp only [delMap]; by_cases e2 : n = y <;> simp [e2]
   ·simp only [findMap, hkk, if_false] at hf
    cases hf
  ·rename_i s hkt
   simp only [Option.some.injEq] at hkt; subst hkt
   cases hk
   cases k <;> first | (simp only [findMap] at hf; cases hf; done) | skip
   rename_i y
   have hk2 : m.key = .string y := by generalize m.key = q at hkm; cases hkm; rfl
   refine step (s == y) (by rw [hk2]; simp [Instr.sameNow]) (fun e => ?_) (fun e => ?_) ?_ (fun val => ?_) ?_
   ·have e0 : s = y := by
     rw [beq_toListBytes] at e
     have e : s.toList = y.toList := by simpa using e
     rw [ByteArray.toList_eq, ByteArray.toList_eq] at e
     obtain ⟨⟨x⟩⟩ := s
     obtain ⟨⟨y⟩⟩ := y
     simpa using e
    refine ⟨?_, by rw [hk2, e0]⟩
    rw [hk2]
    simp only [Instr.sameBits, beq_toListBytes] at e ⊢
    have e : s.toList = y.toList := by simpa using e
    rw [e]; simp
   ·rw [hk2]; intro h; cases h; rw [beq_toListBytes] at e; simp at e
   ·simp only [findMap, beq_toListBytes]; by_cases e2 : s.toList = y.toList <;> simp [e2]
   ·simp only [setMap, beq_toListBytes]; by_cases e2 : s.toList = y.toList <;> simp [e2]
   ·simp only [delMap, beq_toListBytes]; by_cases e2 : s.toList = y.toList <;> simp [e2]
  ·cases h
theorem run_setMap {r : Nat} {ents : Array MapEntry} {clock : Nat} (o : Obj) (ho : ∀ a b c, o ≠ .cells a b c) (h : w.heap[r]? = some (.map ents clock)) :
  ∃ w', (setObj r o).run P w = .ok () w' ∧ Only w w' r ∧ w'.heap[r]? = some o := by
 have hlt : r < w.heap.size := (Array.getElem?_eq_some_iff.1 h).1
 refine ⟨{ w with heap := w.heap.setIfInBounds r o }, ?_, ⟨by simp, rfl, rfl, rfl, fun k hk => ?_⟩, by simp [hlt]⟩
 ·cases o <;> first | (exact absurd rfl (ho _ _ _)) | simp [setObj, Sem.run, h]
 ·simp [Array.getElem?_setIfInBounds_ne (Ne.symm hk)]
theorem step_map {h : VHeap} {w' : World} (hR : Rel ρ h.get w) (hw : WF h.get h.next) {b : Nat} {l : Loc} {es es' : List (VV × VV)} (hb : ρ b = some l) (hg : h.get b = some (.map es)) {o : Obj}
  (hm : w'.heap[l.mb]? = some o) (hro : RelO ρ l (.map es') (some o)) (ho : Only w w' l.mb) : Step ρ h.get h.next w ρ (h.put b (.map es')).get (h.put b (.map es')).next w' := by
 have hlt := VHeap.get_lt hg
 have gp : ∀ b', (h.put b (.map es')).get b' = if b' = b then some (.map es') else h.get b' := fun b' => VHeap.get_put h b _ hlt b'
 have cellsBack : ∀ b' k, (h.put b (.map es')).get b' = some (.cells k) → h.get b' = some (.cells k) := by
  intro b' k h'
  rw [gp] at h'
  split at h'
  ·cases h'
  ·exact h'
 have hrel : Rel ρ (h.put b (.map es')).get w' := by
  refine ⟨fun b2 l2 h2 => ?_, fun b1 b2 l1 l2 o1 o2 h1 h2 g1 g2 hne hmb => ?_⟩
  ·by_cases hbb : b2 = b
   ·subst hbb
    rw [hb] at h2; simp only [Option.some.injEq] at h2; subst h2
    exact ⟨_, by rw [gp, if_pos rfl], by rw [hm]; exact hro⟩
   ·obtain ⟨o2, ho2, hr⟩ := hR.obj b2 l2 h2
    refine ⟨o2, by rw [gp, if_neg hbb]; exact ho2, ?_⟩
    by_cases hmb : l2.mb = l.mb
    ·obtain ⟨_, _, _, e2, _⟩ := hR.apart b2 b l2 l _ _ h2 hb ho2 hg hbb hmb
     cases e2
    ·rw [ho.other l2.mb hmb]; exact hr
  ·have key : ∀ b l o, ρ b = some l → (h.put b (.map es')).get b = some o → True := fun _ _ _ _ _ => trivial
   rw [gp] at g1 g2
   split at g1
   ·rename_i e1; subst e1
    obtain ⟨p2, q2, _⟩ := hR.obj b2 l2 h2
    obtain ⟨_, _, e2, _⟩ := hR.apart b1 b2 l1 l2 _ _ h1 h2 hg q2 hne hmb
    cases e2
   ·split at g2
    ·rename_i e2; subst e2
     obtain ⟨p1, q1, _⟩ := hR.obj b1 l1 h1
     obtain ⟨_, _, _, e2, _⟩ := hR.apart b1 b2 l1 l2 _ _ h1 h2 q1 hg hne hmb
     cases e2
    ·exact hR.apart b1 b2 l1 l2 o1 o2 h1 h2 g1 g2 hne hmb
 refine ⟨hR, hrel, ⟨fun b' o' hb' => VHeap.get_lt hb', fun b' k hb' => hw.fam b' k (cellsBack b' k hb'), fun b' k hb' hs b2 k2 h2 hne => hw.solo b' k (cellsBack b' k hb') hs b2 k2 (cellsBack b2 k2 h2) hne,
  fun b' k hb' hl b2 k2 h2 hf => hw.last b' k (cellsBack b' k hb') hl b2 k2 (cellsBack b2 k2 h2) hf, fun b' k hb' hl b2 k2 h2 hf hl2 => hw.last1 b' k (cellsBack b' k hb') hl b2 k2 (cellsBack b2 k2 h2) hf hl2⟩,
  Ren.le.refl ρ, Nat.le_refl _, ho.os, ho.tape, ho.output, by rw [ho.size]; exact Nat.le_refl _, fun B hB hall => ?_, fun _ _ h => .inl h, fun b' k hb' => ?_, fun b' es2 hb' => ?_⟩
 ·refine ho.other B fun e => ?_
  obtain ⟨k1, hk1, _⟩ := hall b l hb e.symm
  rw [hg] at hk1; cases hk1
 ·refine ⟨k, ?_, rfl⟩
  rw [gp, if_neg (fun e => by subst e; rw [hg] at hb'; cases hb')]
  exact hb'
 ·rw [gp]
  split
  ·exact ⟨_, rfl⟩
  ·exact ⟨es2, hb'⟩
theorem mapUpdate_sound {h h' : VHeap} {t : TypeId} {m key val : VV} {mm mk mval : Value} (hop : vmapUpdate P t m key val h = some h') (hm : RelV ρ m mm) (hk : RelV ρ key mk) (hv : RelV ρ val mval)
  (hR : Rel ρ h.get w) (hw : WF h.get h.next) : ∃ w', (Instr.mapUpdate t mm mk mval).run P w = .ok () w' ∧ Step ρ h.get h.next w ρ h'.get h'.next w' := by
 unfold vmapUpdate at hop
 split at hop
 ·rename_i kt et b hu
  split at hop
  ·rename_i hkey
   split at hop
   ·rename_i es hg
    split at hop
    ·rename_i r hf
     simp only [Option.some.injEq] at hop; subst hop
     cases hm with
     | map _ l hb =>
     obtain ⟨o, ho, hr⟩ := hR.obj b l hb
     rw [hg] at ho; simp only [Option.some.injEq] at ho; subst ho
     have hr0 := hr
     generalize hmo : w.heap[l.mb]? = mo at hr0
     cases hr0 with
     | map es ents clock hl hst hrel =>
     obtain ⟨kd, hkd⟩ : ∃ d, P.underlying kt = some d := by
      unfold keyOK at hkey
      split at hkey
      ·exact ⟨_, ‹_›⟩
      ·exact ⟨_, ‹_›⟩
      ·cases hkey
     rcases findNow_more hkey hk kd hkd es ents.toList r 0 hf (by simpa using hl) (fun i p q a b => hrel i p q a (by simpa using b)) with ⟨_, h1, h2, _, h5⟩ | ⟨i, mv, me, h1, h2, h3, h4, _, h5⟩
     ·obtain ⟨w', hrun, honly, hh⟩ := run_setMap (P := P) (w := w) (r := l.mb) (.map (ents.push { key := mk, val := mval, born := clock }) (clock + 1)) (fun _ _ _ e => by cases e) hmo
      refine ⟨w', ?_, step_map hR hw hb hg hh ?_ honly⟩
      ·simp only [Instr.mapUpdate, Sem.run_bind, run_underlying hu, Result.andThen_ok, run_getMap w hmo, checkKey_sound w hkey hk, Instr.findKey, run_underlying hkd, h1, Sem.run_pure, hrun]
      ·rw [h2]
       refine RelO.map _ _ _ (by simp [hl]) (MapKept.stamped_push hst h5) fun j p q hp hq => ?_
       rw [Array.getElem?_push] at hq
       split at hq
       ·rename_i e
        simp only [Option.some.injEq] at hq; subst hq
        rw [List.getElem?_append_right (by omega), e, hl, Nat.sub_self] at hp
        simp only [List.getElem?_cons_zero, Option.some.injEq] at hp; subst hp
        exact ⟨hk, hv⟩
       ·have hj : j < es.length := by rw [hl]; exact (Array.getElem?_eq_some_iff.1 hq).1
        rw [List.getElem?_append_left hj] at hp
        exact hrel j p q hp hq
     ·have hi : ents[i]? = some me := by simpa using h2
      obtain ⟨w', hrun, honly, hh⟩ := run_setMap (P := P) (w := w) (r := l.mb) (.map (ents.modify i fun e => { e with key := mk, val := mval }) clock) (fun _ _ _ e => by cases e) hmo
      refine ⟨w', ?_, step_map hR hw hb hg hh ?_ honly⟩
      ·rw [Nat.zero_add] at h1
       simp only [Instr.mapUpdate, Sem.run_bind, run_underlying hu, Result.andThen_ok, run_getMap w hmo, checkKey_sound w hkey hk, Instr.findKey, run_underlying hkd, h1, Sem.run_pure, hi, Option.map_some, Option.getD_some, Instr.keyThatStays, h3, if_true, hrun]
      ·rw [h4]
       refine RelO.map _ _ _ (by simp [hl]) (MapKept.stamped_modify hst i _ (fun _ _ => rfl) (fun e _ he => by rw [hi] at he; cases he; exact h5.symm)) fun j p q hp hq => ?_
       rw [Array.getElem?_modify] at hq
       rw [List.getElem?_set] at hp
       split at hq
       ·rename_i e; subst e
        rw [if_pos rfl] at hp
        split at hp
        ·simp only [Option.some.injEq] at hp; subst hp
         simp only [Option.map_eq_some_iff] at hq
         obtain ⟨q0, _, rfl⟩ := hq
         exact ⟨hk, hv⟩
        ·cases hp
       ·rename_i e
        rw [if_neg e] at hp
        exact hrel j p q hp hq
    ·cases hop
   ·cases hop
  ·cases hop
 ·cases hop
theorem overwrite_sound {h h' : VHeap} {b i n z : Nat} {c : Option Nat} {mv : Value} {xs : List (List VV)} (hop : overwrite h b i xs = some h') (hv : RelV ρ (.slice b i n c z) mv)
  (hx : ∀ cs ∈ xs, cs.length = z ∧ cs.all oneCell = true) (ms : List Value) (hms : RelL ρ xs.flatten ms) (hn : xs.length ≤ n) (hR : Rel ρ h.get w) (hw : WF h.get h.next) :
  ∃ a mcap w', mv = .slice (some a) n mcap ∧ (storeCells a ms).run P w = .ok () w' ∧ Step ρ h.get h.next w ρ h'.get h'.next w' := by
 unfold overwrite at hop
 split at hop
 ·rename_i k hg
  split at hop
  ·cases hop
  ·rename_i hc
   simp only [not_or, Nat.not_lt, Bool.not_eq_true] at hc
   obtain ⟨hro, hin⟩ := hc
   simp only [Option.some.injEq] at hop; subst hop
   cases hv with
   | slice _ _ _ _ _ l a mcap hb hlz hn' hm hcc ho ha =>
   obtain ⟨o, hgo, hr⟩ := hR.obj b l hb
   rw [hg] at hgo; simp only [Option.some.injEq] at hgo; subst hgo
   have hke : k.esz = l.esz := by
    generalize w.heap[l.mb]? = m at hr
    cases hr with
    | cells k c t fr hr0 hs he h0 hin hfr hc => exact he
   obtain ⟨w', hst, hstep⟩ := step_splice (P := P) hR hw hb hg hro i xs hin (fun cs hcs => ⟨(hx cs hcs).1.trans (hlz.symm.trans hke.symm), (hx cs hcs).2⟩) ms hms
   rcases ha with ha | ⟨h0, h0'⟩
   ·exact ⟨a, mcap, w', rfl, by rw [ha]; exact hst, hstep⟩
   ·have hxe : xs = [] := List.eq_nil_of_length_eq_zero (by omega)
    subst hxe
    have hme : ms = [] := hms.of_nil
    subst hme
    simp only [storeCells, Sem.run_pure] at hst
    cases hst
    exact ⟨a, _, w, rfl, rfl, hstep⟩
 ·cases hop
def OpRun (P : Program) (a : Act) (w : World) (o : Oper) (mv : Value) (w' : World) : Prop :=
 (execOp a.eval o).run P w = .ok (.value mv) w' ∨ ((execOp a.eval o).run P w = .ok .skip w' ∧ mv = undef)
def callsFunc : Op → Bool
 | .call { callee := .value _, .. } => true
 | .call { callee := .invoke _ _, .. } => true
 | _ => false
theorem delete_sound {h h' : VHeap} {t : TypeId} {m k v : VV} {mm mk : Value} {ty : TypeId} {kt et : TypeId} {b : Nat} (hu : P.underlying t = some (.map kt et)) (hmb : m = .map b) (hkey : keyOK P kt k = true)
  {es : List (VV × VV)} (hg : h.get b = some (.map es)) {r : Option VV} (hf : findMap k es = some r) (he : v = .tuple [] ∧ h' = h.put b (.map (delMap k es)))
  (hm : RelV ρ m mm) (hk : RelV ρ k mk) (hR : Rel ρ h.get w) (hw : WF h.get h.next) :
  ∃ w', (Builtin.delete_ #[t] ty #[mm, mk]).run P w = .ok (.tuple #[]) w' ∧ Step ρ h.get h.next w ρ h'.get h'.next w' := by
 obtain ⟨rfl, rfl⟩ := he
 subst hmb
 cases hm with
 | map _ l hb =>
 obtain ⟨o, ho, hr⟩ := hR.obj b l hb
 rw [hg] at ho; simp only [Option.some.injEq] at ho; subst ho
 generalize hmo : w.heap[l.mb]? = mo at hr
 cases hr with
 | map es ents clock hl hst hrel =>
 obtain ⟨kd, hkd⟩ : ∃ d, P.underlying kt = some d := by
  unfold keyOK at hkey
  split at hkey
  ·exact ⟨_, ‹_›⟩
  ·exact ⟨_, ‹_›⟩
  ·cases hkey
 rcases findNow_more hkey hk kd hkd es ents.toList r 0 hf (by simpa using hl) (fun i p q a b => hrel i p q a (by simpa using b)) with ⟨_, h1, _, h2, _⟩ | ⟨i, mv, me, h1, h2, _, _, h4, _⟩
 ·obtain ⟨w', hrun, honly, hh⟩ := run_setMap (P := P) (w := w) (r := l.mb) (.map ents clock) (fun _ _ _ e => by cases e) hmo
  refine ⟨w', ?_, step_map hR hw hb hg hh ?_ honly⟩
  ·simp only [Builtin.delete_, List.getElem?_toArray, List.getElem?_cons_zero, List.getElem?_cons_succ, Sem.run_bind, run_underlying hu, Result.andThen_ok, run_getMap w hmo, checkKey_sound w hkey hk, Instr.findKey, run_underlying hkd, h1, Sem.run_pure, hrun]
  ·rw [h2]; exact RelO.map _ _ _ hl hst hrel
 ·have hi : ents[i]? = some me := by simpa using h2
  obtain ⟨w', hrun, honly, hh⟩ := run_setMap (P := P) (w := w) (r := l.mb) (.map (ents.eraseIdxIfInBounds i) clock) (fun _ _ _ e => by cases e) hmo
  have hlt : i < ents.size := (Array.getElem?_eq_some_iff.1 hi).1
  refine ⟨w', ?_, step_map hR hw hb hg hh ?_ honly⟩
  ·rw [Nat.zero_add] at h1
   simp only [Builtin.delete_, List.getElem?_toArray, List.getElem?_cons_zero, List.getElem?_cons_succ, Sem.run_bind, run_underlying hu, Result.andThen_ok, run_getMap w hmo, checkKey_sound w hkey hk, Instr.findKey, run_underlying hkd, h1, Sem.run_pure, hrun]
  ·rw [h4]
   have e : (ents.eraseIdxIfInBounds i).toList = ents.toList.eraseIdx i := by
    simp [Array.eraseIdxIfInBounds, hlt]
   refine RelO.map _ _ _ (by
    have := congrArg List.length e
    simp only [Array.length_toList] at this
    rw [this, List.length_eraseIdx, List.length_eraseIdx, hl, Array.length_toList]) (MapKept.stamped_erase hst i) fun j p q hp hq => ?_
   have hq' : (ents.eraseIdxIfInBounds i).toList[j]? = some q := by rw [Array.getElem?_toList]; exact hq
   rw [e, List.getElem?_eraseIdx] at hq'
   rw [List.getElem?_eraseIdx] at hp
   split at hp
   ·rename_i hji; rw [if_pos hji] at hq'; exact hrel j p q hp (by simpa using hq')
   ·rename_i hji; rw [if_neg hji] at hq'; exact hrel (j + 1) p q hp (by simpa using hq')
theorem take_flatten (z : Nat) : ∀ (xs : List (List VV)) (q : Nat), (∀ cs ∈ xs, cs.length = z) → (xs.take q).flatten = xs.flatten.take (q * z)
 | [], q, _ => by simp
 | c0 :: xs, 0, _ => by simp
 | c0 :: xs, q + 1, h => by
  have hc0 := h c0 (by simp)
  have e1 : c0.take ((q + 1) * z) = c0 := List.take_of_length_le (by rw [hc0, Nat.add_mul]; omega)
  rw [List.take_succ_cons, List.flatten_cons, List.flatten_cons, take_flatten z xs q (fun cs hcs => h cs (by simp [hcs])), List.take_append, e1, hc0, Nat.add_mul, Nat.one_mul, Nat.add_sub_cancel]
theorem zeros_rel {zs : List VV} {mz : Array Value} (h : RelL ρ zs mz.toList) (n : Nat) : RelL ρ (List.replicate n zs).flatten (Builtin.zeroCells mz n).toList := by
 have hl : zs.length = mz.size := by simpa using h.1
 refine ⟨by simp [List.length_flatten, hl, Builtin.zeroCells], fun i x mx hx hmx => ?_⟩
 have hi' : i < n * mz.size := by
  have := (List.getElem?_eq_some_iff.1 hmx).1
  simpa [Builtin.zeroCells] using this
 have hpos : 0 < mz.size := by
  rcases Nat.eq_zero_or_pos mz.size with e | e
  ·rw [e] at hi'; simp at hi'
  ·exact e
 have e1 : ∀ (n i : Nat), i < n * mz.size → (List.flatten (List.replicate n zs))[i]? = zs[i % mz.size]? := by
  intro n
  induction n with
  | zero => intro i hi; simp at hi
  | succ n ih =>
   intro i hi
   rw [List.replicate_succ, List.flatten_cons]
   by_cases hlt : i < mz.size
   ·rw [List.getElem?_append_left (by omega), Nat.mod_eq_of_lt hlt]
   ·rw [List.getElem?_append_right (by omega), hl, ih _ (by rw [Nat.add_mul, Nat.one_mul] at hi; omega), ← Nat.mod_eq_sub_mod (by omega)]
 rw [e1 n i hi'] at hx
 simp [Builtin.zeroCells, hi'] at hmx
 have hmod : i % mz.size < mz.size := Nat.mod_lt _ hpos
 rw [getElem!_pos mz _ hmod] at hmx
 refine h.2 _ x mx hx ?_
 rw [← hmx]
 simp [Array.getElem?_eq_getElem hmod]
theorem eff_sound {o : Oper} {e : Env} {h h' : VHeap} {call : Caller} {v : VV} (hk : kindOf P o = .eff) (hc : callsFunc o.op = false) (hop : vop P call o e h = some (v, h')) (a : Act)
  (ho : ∀ x ∈ o.op.operands, RelV ρ (ev e x) (a.eval x)) (hR : Rel ρ h.get w) (hw : WF h.get h.next) :
  ∃ mv ρ' w', OpRun P a w o mv w' ∧ Step ρ h.get h.next w ρ' h'.get h'.next w' ∧ RelV ρ' v mv := by
 have liftU : ∀ {s : Sem Unit} {w' : World}, s.run P w = .ok () w' → ((do s; pure .skip : Sem Next)).run P w = .ok .skip w' := by
  intro s w' h1
  simp only [Sem.run_bind, h1, Result.andThen_ok, Sem.run_pure]
 have liftV : ∀ {s : Sem Value} {mv : Value} {w' : World}, s.run P w = .ok mv w' → ((do pure (.value (← s)) : Sem Next)).run P w = .ok (.value mv) w' := by
  intro s mv w' h1
  simp only [Sem.run_bind, h1, Result.andThen_ok, Sem.run_pure]
 obtain ⟨dst, op, type, pos, after, guard⟩ := o
 unfold OpRun
 cases op <;> simp only [vop, kindOf] at hop hk <;> (try (cases hk; done)) <;> (try (cases hop; done)) <;> simp only [Op.operands] at ho <;> simp only [execOp]
 case store t x y =>
  simp only [Option.map_eq_some_iff, Prod.mk.injEq] at hop
  obtain ⟨h1, hst, rfl, rfl⟩ := hop
  obtain ⟨w', hrun, hstep⟩ := store_sound (P := P) hst (ho x (by simp)) (ho y (by simp)) hR hw
  exact ⟨undef, ρ, w', .inr ⟨liftU hrun, rfl⟩, hstep, .undef _⟩
 case mapUpdate t m k x =>
  simp only [Option.map_eq_some_iff, Prod.mk.injEq] at hop
  obtain ⟨h1, hst, rfl, rfl⟩ := hop
  obtain ⟨w', hrun, hstep⟩ := mapUpdate_sound (P := P) hst (ho m (by simp)) (ho k (by simp)) (ho x (by simp)) hR hw
  exact ⟨undef, ρ, w', .inr ⟨liftU hrun, rfl⟩, hstep, .undef _⟩
 case insert t m k x =>
  simp only [Option.map_eq_some_iff, Prod.mk.injEq] at hop
  obtain ⟨h1, hst, rfl, rfl⟩ := hop
  obtain ⟨w', hrun, hstep⟩ := mapUpdate_sound (P := P) hst (ho m (by simp)) (ho k (by simp)) (ho x (by simp)) hR hw
  exact ⟨undef, ρ, w', .inr ⟨liftU hrun, rfl⟩, hstep, .undef _⟩
 case convert src dst x =>
  split at hk <;> cases hk
 case call c =>
  obtain ⟨callee, args, argTypes⟩ := c
  cases callee with
  | value f => cases hc
  | invoke r m => cases hc
  | builtin b =>
   have hargs : RelL ρ (argsOf e args) (args.map a.eval).toList := by
    refine ⟨by simp [argsOf], fun i u mu hu hmu => ?_⟩
    simp only [argsOf, List.getElem?_map, Option.map_eq_some_iff, Array.toList_map] at hu hmu
    obtain ⟨x, hx, rfl⟩ := hu
    obtain ⟨y, hy, rfl⟩ := hmu
    rw [hx] at hy; simp only [Option.some.injEq] at hy; subst hy
    exact ho x (by simp [Call.operands]; simpa using List.mem_of_getElem? hx)
   have hex : (do let d ← resolve a.eval { callee := .builtin b, args, argTypes } type; invoke d.target d.args : Sem Next) =
     builtin b argTypes type (args.map fun | .const _ => true | _ => false) (args.map a.eval) := rfl
   rw [hex]
   cases b <;> (try (cases hop; done)) <;> (try (cases hk; done)) <;> (try (simp only at hk; split at hk <;> cases hk; done)) <;> simp only [vcall] at hop
   case append =>
    rw [show builtin .append argTypes type (args.map fun | .const _ => true | _ => false) (args.map a.eval) = (do pure (.value (← Builtin.append_ argTypes type (args.map a.eval))) : Sem Next) from rfl]
    generalize argsOf e args = L at hop hargs
    rcases L with _ | ⟨s, _ | ⟨x, _ | ⟨z, L⟩⟩⟩ <;> dsimp only at hop <;> (try (cases hop; done))
    obtain ⟨ms, rest, hms, hs, hrest⟩ := hargs.of_cons
    obtain ⟨mx, rest2, rfl, hx, hnil⟩ := hrest.of_cons
    have hr2 := hnil.of_nil
    subst hr2
    have hms' : args.map a.eval = #[ms, mx] := by apply Array.ext'; simpa using hms
    rw [hms']
    split at hop
    ·rename_i t u ht1 hu1
     have hargT : ∀ (ty : TypeId) (vs : Array Value), Builtin.append_ argTypes ty vs = Builtin.append_ #[t, u] ty vs := by
      intro ty vs
      simp only [Builtin.append_, ht1, hu1, List.getElem?_toArray, List.getElem?_cons_zero, List.getElem?_cons_succ]
     rw [hargT]
     split at hop
     ·rename_i el e' hu ht
      simp only [Option.bind_eq_some_iff] at hop
      obtain ⟨xs, hxs, hop⟩ := hop
      obtain ⟨mv, ρ', w', hrun, hstep, hrel⟩ := append_sound (ty := type) hop hxs hu ht (.inl ⟨_, rfl⟩) hs hx hR hw
      exact ⟨mv, ρ', w', .inl (liftV hrun), hstep, hrel⟩
     ·rename_i el hu ht
      simp only [Option.bind_eq_some_iff] at hop
      obtain ⟨xs, hxs, hop⟩ := hop
      obtain ⟨mv, ρ', w', hrun, hstep, hrel⟩ := append_sound (ty := type) hop hxs hu ht (.inr rfl) hs hx hR hw
      exact ⟨mv, ρ', w', .inl (liftV hrun), hstep, hrel⟩
     ·cases hop
    ·cases hop
   case copy =>
    rw [show builtin .copy argTypes type (args.map fun | .const _ => true | _ => false) (args.map a.eval) = (do pure (.value (← Builtin.copy_ argTypes type (args.map a.eval))) : Sem Next) from rfl]
    generalize argsOf e args = L at hop hargs
    rcases L with _ | ⟨d, _ | ⟨x, _ | ⟨z, L⟩⟩⟩ <;> dsimp only at hop <;> (try (cases hop; done))
    obtain ⟨md, rest, hms, hd, hrest⟩ := hargs.of_cons
    obtain ⟨mx, rest2, rfl, hx, hnil⟩ := hrest.of_cons
    have hr2 := hnil.of_nil
    subst hr2
    have hms' : args.map a.eval = #[md, mx] := by apply Array.ext'; simpa using hms
    rw [hms']
    split at hop
    ·rename_i el ht
     obtain ⟨t, ht1, ht2⟩ := Option.bind_eq_some_iff.1 ht
     split at hop
     ·cases hop
     rename_i hel0
     obtain ⟨inf, hinf⟩ := info_of_cells hel0
     split at hop
     ·rename_i xs b i n c z hxs
      split at hop
      ·rename_i hz
       subst hz
       simp only [Option.map_eq_some_iff, Prod.mk.injEq] at hop
       obtain ⟨h1, how, rfl, rfl⟩ := hop
       obtain ⟨hlen, hall, ms, hrel, hfirst, hfirstn⟩ := src_sound (P := P) hxs hx hR (fun _ _ _ h => h)
       have hmin : Nat.min xs.length n ≤ xs.length := Nat.min_le_left _ _
       have htk : xs.take n = xs.take (Nat.min xs.length n) := by
        by_cases hle : xs.length ≤ n
        ·rw [List.take_of_length_le hle, show Nat.min xs.length n = xs.length from Nat.min_eq_left hle, List.take_length]
        ·rw [show Nat.min xs.length n = n from Nat.min_eq_right (by omega)]
       have hfl : (xs.take (Nat.min xs.length n)).flatten = xs.flatten.take (Nat.min xs.length n * P.cellsOf el) := take_flatten _ xs _ (fun cs hcs => (hall cs hcs).1)
       obtain ⟨ad, mcap, w', hmv, hst, hstep⟩ := overwrite_sound (P := P) (xs := xs.take n) how hd (fun cs hcs => hall cs (List.mem_of_mem_take hcs)) (ms.take (Nat.min xs.length n * P.cellsOf el))
        (by rw [htk, hfl]; exact hrel.take _) (by simp; omega) hR hw
       subst hmv
       refine ⟨_, ρ, w', .inl (liftV ?_), hstep, .int _ _⟩
       simp only [Builtin.copy_, ht1, List.getElem?_toArray, List.getElem?_cons_zero, List.getElem?_cons_succ, Sem.run_bind, run_underlying ht2, Result.andThen_ok, hlen, run_sizeOf w hinf, hfirstn _ hmin, hst, Sem.run_pure, goInt]
      ·cases hop
     ·rename_i xs hxs
      simp only [Option.some.injEq, Prod.mk.injEq] at hop
      obtain ⟨rfl, rfl⟩ := hop
      obtain ⟨hlen, _, ms, _, _, hfirstn⟩ := src_sound (P := P) hxs hx hR (fun _ _ _ h => h)
      cases hd
      have h0 := hfirstn 0 (Nat.zero_le _)
      refine ⟨.int .i64 0, ρ, w, .inl (liftV ?_), Step.refl hR hw, .int _ _⟩
      simp only [Builtin.copy_, ht1, List.getElem?_toArray, List.getElem?_cons_zero, List.getElem?_cons_succ, Sem.run_bind, run_underlying ht2, Result.andThen_ok, hlen, run_sizeOf w hinf, Nat.min_zero, h0, Sem.run_pure, goInt]
      rfl
     ·cases hop
    ·cases hop
   case clear =>
    rw [show builtin .clear argTypes type (args.map fun | .const _ => true | _ => false) (args.map a.eval) = (do pure (.value (← Builtin.clear_ argTypes type (args.map a.eval))) : Sem Next) from rfl]
    generalize argsOf e args = L at hop hargs
    rcases L with _ | ⟨x, _ | ⟨z, L⟩⟩ <;> dsimp only at hop <;> (try (cases hop; done))
    obtain ⟨mx, rest, hms, hx, hnil⟩ := hargs.of_cons
    have hr2 := hnil.of_nil
    subst hr2
    have hms' : args.map a.eval = #[mx] := by apply Array.ext'; simpa using hms
    rw [hms']
    split at hop
    ·rename_i el ht
     obtain ⟨t, ht1, ht2⟩ := Option.bind_eq_some_iff.1 ht
     simp only [Option.some.injEq, Prod.mk.injEq] at hop
     obtain ⟨rfl, rfl⟩ := hop
     cases hx
     refine ⟨.tuple #[], ρ, w, .inl (liftV ?_), Step.refl hR hw, RelV.of_tuple (RelL.nil ρ)⟩
     simp [Builtin.clear_, ht1, run_underlying ht2]
    ·rename_i el b i n c z ht
     obtain ⟨t, ht1, ht2⟩ := Option.bind_eq_some_iff.1 ht
     split at hop
     ·simp only [Option.some.injEq, Prod.mk.injEq] at hop
      obtain ⟨rfl, rfl⟩ := hop
      cases hx
      refine ⟨.tuple #[], ρ, w, .inl (liftV ?_), Step.refl hR hw, RelV.of_tuple (RelL.nil ρ)⟩
      simp [Builtin.clear_, ht1, run_underlying ht2]
     ·rename_i hn0
      split at hop
      ·rename_i zv hz
       split at hop
       ·rename_i hzc
        subst hzc
        simp only [Option.map_eq_some_iff, Prod.mk.injEq] at hop
        obtain ⟨h1, how, rfl, rfl⟩ := hop
        obtain ⟨inf, mz, hi, hzv, hrz, hone, hlen⟩ := zero_sound (ρ := ρ) hz
        have hcells := hrz.cells (notUndef hone)
        have hzr := zeros_rel hcells n
        obtain ⟨ad, mcap, w', hmv, hst, hstep⟩ := overwrite_sound (P := P) (xs := List.replicate n (vcells zv)) how hx (fun cs hcs => by
         have := (List.mem_replicate.1 hcs).2
         subst this
         exact ⟨hlen, hone⟩) _ hzr (by simp) hR hw
        subst hmv
        refine ⟨.tuple #[], ρ, w', .inl (liftV ?_), hstep, RelV.of_tuple (RelL.nil ρ)⟩
        cases n with
        | zero => exact absurd rfl hn0
        | succ n => simp [Builtin.clear_, ht1, run_underlying ht2, run_zero hi hzv, hst]
       ·cases hop
      ·cases hop
    ·cases hop
   case delete =>
    rw [show builtin .delete argTypes type (args.map fun | .const _ => true | _ => false) (args.map a.eval) = (do pure (.value (← Builtin.delete_ argTypes type (args.map a.eval))) : Sem Next) from rfl]
    generalize argsOf e args = L at hop hargs
    rcases L with _ | ⟨m, _ | ⟨k, _ | ⟨z, L⟩⟩⟩ <;> dsimp only at hop <;> (try (cases hop; done))
    obtain ⟨mm, rest, hms, hm, hrest⟩ := hargs.of_cons
    obtain ⟨mk, rest2, rfl, hk2, hnil⟩ := hrest.of_cons
    have hr2 := hnil.of_nil
    subst hr2
    have hms' : args.map a.eval = #[mm, mk] := by apply Array.ext'; simpa using hms
    rw [hms']
    split at hop
    ·rename_i kt et b ht
     obtain ⟨t, ht1, ht2⟩ := Option.bind_eq_some_iff.1 ht
     split at hop
     ·rename_i hkey
      split at hop
      ·rename_i es hg
       split at hop
       ·rename_i r hf
        simp only [Option.some.injEq, Prod.mk.injEq] at hop
        obtain ⟨rfl, rfl⟩ := hop
        obtain ⟨w', hrun, hstep⟩ := delete_sound (P := P) (ty := type) ht2 rfl hkey hg hf ⟨rfl, rfl⟩ hm hk2 hR hw
        refine ⟨.tuple #[], ρ, w', .inl (liftV ?_), hstep, RelV.of_tuple (RelL.nil ρ)⟩
        have hargT : ∀ (ty : TypeId) (vs : Array Value), Builtin.delete_ argTypes ty vs = Builtin.delete_ #[t] ty vs := by
         intro ty vs
         simp only [Builtin.delete_, ht1, List.getElem?_toArray, List.getElem?_cons_zero]
        rw [hargT]; exact hrun
       ·cases hop
      ·cases hop
     ·cases hop
    ·cases hop
end
end Go.Proofs.Ythlbahcggmbfaaa.V

namespace Go.Proofs.Ythlbahcggmbfaaa.V
def seatI : World → Prop := fun _ => True
end Go.Proofs.Ythlbahcggmbfaaa.V

namespace Go.Proofs.Ythlbahcggmbfaaa.V
def Gd (ρ : Ren) (g : Nat → Option VObj) (w : World) : Prop :=
 ∃ W0 : World, seatI W0 ∧ W0.heap.size ≤ w.heap.size ∧ (∀ B, B < W0.heap.size → w.heap[B]? = W0.heap[B]?) ∧
  ∀ b l, ρ b = some l → W0.heap.size ≤ l.mb ∨ ∃ k, g b = some (.cells k) ∧ k.ro = true
theorem Step.gd {ρ ρ' : Ren} {g g' : Nat → Option VObj} {n n' : Nat} {w w' : World} (s : Step ρ g n w ρ' g' n' w') (h : Gd ρ g w) : Gd ρ' g' w' := by
 obtain ⟨W0, hI, h1, h2, h3⟩ := h
 refine ⟨W0, hI, Nat.le_trans h1 s.size, fun B hB => ?_, fun b l hb => ?_⟩
 ·refine (s.old B (Nat.lt_of_lt_of_le hB h1) fun b l hb hl => ?_).trans (h2 B hB)
  rcases h3 b l hb with h | h
  ·omega
  ·exact h
 ·rcases s.new b l hb with h | ⟨_, h | ⟨b0, l0, k, hb0, hl0, hg0, hr0⟩⟩
  ·rcases h3 b l h with h | ⟨k, hk, hr⟩
   ·exact .inl h
   ·obtain ⟨k', hk', e⟩ := s.ro b k hk
    exact .inr ⟨k', hk', e.trans hr⟩
  ·exact .inl (Nat.le_trans h1 h)
  ·rcases h3 b0 l0 hb0 with h | ⟨k1, hk1, hr1⟩
   ·exact .inl (hl0 ▸ h)
   ·rw [hg0] at hk1
    simp only [Option.some.injEq, VObj.cells.injEq] at hk1
    subst hk1
    rw [hr0] at hr1; cases hr1
end Go.Proofs.Ythlbahcggmbfaaa.V

namespace Go.Proofs.Ythlbahcggmbfaaa.V
open Go.RowKit
section
variable {P : Program}
def SoundF (P : Program) (f : FuncId) (args : List VV) (h : VHeap) (v : VV) (h' : VHeap) : Prop :=
 ∀ (ρ : Ren) (w : World) (margs : List Value), Rel ρ h.get w → WF h.get h.next → RelL ρ args margs → Gd ρ h.get w →
  Calls P f margs.toArray w fun e w' => ∃ mv ρ', e = .returned mv ∧ Step ρ h.get h.next w ρ' h'.get h'.next w' ∧ RelV ρ' v mv
def SoundC (P : Program) (call : Caller) : Prop := ∀ f args h v h', call f args h = some (v, h') → SoundF P f args h v h'
theorem plain_enter {f : FuncId} (h : plainFunc P f = true) (args : Array Value) (w : World) : (callFunc f args).run P w = .ok (.enter f args) w := by
 unfold plainFunc at h
 split at h
 ·rename_i fn hf
  simp only [Bool.and_eq_true, Bool.not_eq_true'] at h
  obtain ⟨hb, hn⟩ := h
  have hb' : fn.body.isNone = false := by cases hfb : fn.body <;> simp_all
  simp only [callFunc, Sem.run_bind, run_program, Result.andThen_ok, hf, hn, hb', Bool.false_eq_true, if_false, Sem.run_pure]
 ·cases h
theorem method_run {t : TypeId} {name : String} {f : FuncId} (h : vmethod P t name = some f) (v : Value) (w : World) : (method (P.types.size + Made.depth) t v name).run P w = .ok (f, v) w := by
 obtain ⟨n, hn⟩ : ∃ n, P.types.size + Made.depth = n + 1 := by
  have hd : 0 < Made.depth := by decide
  exact ⟨P.types.size + Made.depth - 1, by omega⟩
 rw [hn]
 unfold vmethod at h
 split at h
 ·rename_i m hm
  obtain ⟨i, hi, hfind⟩ := Option.bind_eq_some_iff.1 hm
  split at h
  ·rename_i g p hpath hfunc
   have hp : m.path = #[] := by simpa using hpath
   unfold method
   simp only [Sem.run_bind, run_typeInfo w hi, Result.andThen_ok, hfind, hp, hfunc]
   split at h
   ·rename_i hu
    simp only [Option.some.injEq] at h; subst h
    simp [follow, receiverAt, run_underlying hu, Place.get]
   ·cases h
   ·rename_i d hn2 hu
    simp only [Option.some.injEq] at h; subst h
    cases d <;> first | (exact absurd rfl (hn2 _)) | simp [follow, receiverAt, run_underlying hu, Place.get]
   ·cases h
  ·cases h
 ·cases h
theorem call_enter {ρ : Ren} {c : Call} {e : Env} {a : Act} {h h' : VHeap} {call : Caller} {v : VV} {type : TypeId} (hb : ∀ b, c.callee ≠ .builtin b) (hop : vcall P call c e h = some (v, h'))
  (ho : ∀ x ∈ c.operands, RelV ρ (ev e x) (a.eval x)) (w : World) :
  ∃ f args margs, call f args h = some (v, h') ∧ RelL ρ args margs ∧ (do let d ← resolve a.eval c type; invoke d.target d.args : Sem Next).run P w = .ok (.enter f margs.toArray) w := by
 obtain ⟨callee, args, argTypes⟩ := c
 have hargs : ∀ (hin : ∀ x ∈ args, x ∈ (Call.mk callee args argTypes).operands), RelL ρ (argsOf e args) (args.map a.eval).toList := by
  intro hin
  refine ⟨by simp [argsOf], fun i u mu hu hmu => ?_⟩
  simp only [argsOf, List.getElem?_map, Option.map_eq_some_iff, Array.toList_map] at hu hmu
  obtain ⟨x, hx, rfl⟩ := hu
  obtain ⟨y, hy, rfl⟩ := hmu
  rw [hx] at hy; simp only [Option.some.injEq] at hy; subst hy
  exact ho x (hin x (by simpa using List.mem_of_getElem? hx))
 cases callee with
 | builtin b => exact absurd rfl (hb b)
 | value f =>
  have hargs := hargs (fun x hx => by simp [Call.operands, hx])
  have hf := ho f (by simp [Call.operands])
  simp only [vcall] at hop
  split at hop
  ·rename_i g first caps e1
   rw [e1] at hf
   split at hop
   ·rename_i hpl
    obtain ⟨x', y', e2, h1, h2⟩ := hf.func_iff
    refine ⟨g, _, x'.toList ++ (args.map a.eval).toList ++ y'.toList, hop, (h1.append hargs).append h2, ?_⟩
    simp only [resolve, e2, Deferred.ofValue, Sem.run_bind, Sem.run_pure, Result.andThen_ok, invoke]
    rw [plain_enter hpl]
    congr 2
    apply Array.ext'
    simp
   ·cases hop
  ·cases hop
 | invoke r name =>
  have hargs := hargs (fun x hx => by simp [Call.operands, hx])
  have hr := ho r (by simp [Call.operands])
  simp only [vcall] at hop
  split at hop
  ·rename_i t u e1
   rw [e1] at hr
   generalize hmr : a.eval r = mr at hr
   cases hr with
   | iface _ _ mu hmu =>
   split at hop
   ·rename_i g hg
    split at hop
    ·rename_i hpl
     refine ⟨g, _, mu :: (args.map a.eval).toList, hop, RelL.cons hmu hargs, ?_⟩
     simp only [resolve, hmr, Sem.run_bind, Sem.run_pure, Result.andThen_ok, invoke]
     have e2 : (#[Value.iface t mu] ++ args.map a.eval)[0]? = some (.iface t mu) := by rw [Array.getElem?_append_left (by simp)]; rfl
     have e3 : #[mu] ++ (#[Value.iface t mu] ++ args.map a.eval).extract 1 (#[Value.iface t mu] ++ args.map a.eval).size = (mu :: (args.map a.eval).toList).toArray := by
      apply Array.ext'
      simp only [Array.toList_append, toList_extract, Array.size_append, List.cons_append, List.nil_append, List.drop_one, List.tail_cons]
      rw [List.take_of_length_le (by simp)]
     simp only [e2, callMethod, Sem.run_bind, run_program, Result.andThen_ok, method_run hg, plain_enter hpl, e3]
    ·cases hop
   ·cases hop
  ·cases hop
theorem op_wp {ρ : Ren} {w : World} {o : Oper} {e : Env} {a : Act} {h h' : VHeap} {call : Caller} {v : VV} (hcall : SoundC P call) (hop : vop P call o e h = some (v, h'))
  (ho : ∀ x ∈ o.op.operands, RelV ρ (ev e x) (a.eval x)) (hR : Rel ρ h.get w) (hw : WF h.get h.next) (hG : Gd ρ h.get w) (K : Act → World → Prop) (Q : Exit → Act → World → Prop)
  (hK : ∀ mv ρ' w', Step ρ h.get h.next w ρ' h'.get h'.next w' → RelV ρ' v mv → K (a.put o.dst mv) w') : o.wp P a w K Q := by
 have quiet : kindOf P o = .pure ∨ kindOf P o = .read → o.wp P a w K Q := by
  intro hk
  obtain ⟨rfl, mv, hrun, hrel⟩ := quiet_sound w hk hop a ho hR (fun _ _ _ _ h => h)
  unfold Oper.wp
  rw [hrun, Oper.upon_value]
  exact hK mv ρ w (Step.refl hR hw) hrel
 cases hk : kindOf P o with
 | pure => exact quiet (.inl hk)
 | read => exact quiet (.inr hk)
 | alloc =>
  obtain ⟨obj, m, w', mv, l, rfl, hrun, hN, hl, hro, hfam, hrel⟩ := alloc_sound w hk hop a ho
  unfold Oper.wp
  rw [hrun, Oper.upon_value]
  exact hK mv _ w' (step_new hR hw obj m hN l hl hro (fun k hk => (hfam k hk).1)) (hrel _ (by simp [Ren.add]))
 | eff =>
  cases hc : callsFunc o.op with
  | false =>
   obtain ⟨mv, ρ', w', hrun, hstep, hrel⟩ := eff_sound hk hc hop a ho hR hw
   unfold Oper.wp
   rcases hrun with hrun | ⟨hrun, rfl⟩
   ·rw [hrun, Oper.upon_value]; exact hK mv ρ' w' hstep hrel
   ·rw [hrun, Oper.upon_skip]; exact hK _ ρ' w' hstep hrel
  | true =>
   obtain ⟨dst, op, type, pos, after, guard⟩ := o
   cases op <;> simp only [callsFunc] at hc <;> (try (cases hc; done))
   rename_i c
   simp only [vop] at hop
   obtain ⟨f, args, margs, hf, hrel, hrun⟩ := call_enter (P := P) (type := type) (by
    intro b hb
    obtain ⟨callee, cargs, cts⟩ := c
    simp only at hb
    subst hb
    simp at hc) hop ho w
   have hs := hcall f args h v h' hf ρ w margs hR hw hrel hG
   unfold Oper.wp
   simp only [execOp]
   rw [hrun, Oper.upon_enter]
   refine Calls.mono hs ?_
   rintro en w' ⟨mv, ρ', rfl, hstep, hv⟩
   exact hK mv ρ' w' hstep hv
theorem skipped_rel (ρ : Ren) : RelV ρ skipped undef := RelV.of_tuple (RelL.nil ρ)
theorem wanted_rel {ρ : Ren} {ops : Array Oper} {o : Oper} {e : Env} {tmps : Array Value} {b : Bool} (h : wantedV ops o e = some b)
  (hE : ∀ j want t, o.guard = some (j, want) → (ops[j]?).bind (·.dst) = some t → RelV ρ (e.get t) (tmps.getD t undef)) : Region.wanted o (yielded ops tmps) = b := by
 unfold wantedV at h
 unfold Region.wanted
 split at h
 ·rename_i hg; simp only [Option.some.injEq] at h; rw [hg]; exact h
 ·rename_i j want hg
  rw [hg]
  simp only
  unfold yieldedV at h
  unfold yielded
  cases hd : (ops[j]?).bind (·.dst) with
  | none => rw [hd] at h; cases h
  | some t =>
   rw [hd] at h
   have ht := hE j want t hg hd
   simp only at h
   cases hv : e.get t <;> rw [hv] at h <;> (try simp only at h) <;> (try (cases h; done))
   case tuple xs =>
    cases xs with
    | cons x xs => simp at h
    | nil =>
     simp only [Option.some.injEq] at h
     rw [hv] at ht
     obtain ⟨x', hx', hl⟩ := ht.tuple_iff
     have hn : ∀ q, tmps[t]? ≠ some (.bool q) := fun q htt => by
      have : tmps.getD t undef = .bool q := by simp [Array.getD_eq_getD_getElem?, htt]
      rw [this] at hx'; cases hx'
     simp only [Option.bind_some]
     rw [← h]
     cases htt : tmps[t]? with
     | none => rfl
     | some x => cases x <;> first | rfl | exact absurd htt (hn _)
   rename_i q
   simp only [Option.some.injEq] at h
   rw [hv] at ht
   have : tmps[t]? = some (.bool q) := by
    cases htt : tmps[t]? with
    | none =>
     have : tmps.getD t undef = undef := by simp [Array.getD_eq_getD_getElem?, htt]
     rw [this] at ht
     unfold undef at ht
     cases ht
    | some x =>
     have : tmps.getD t undef = x := by simp [Array.getD_eq_getD_getElem?, htt]
     rw [this] at ht
     cases ht; rfl
   simp only [Option.bind_some, this]
   rw [← h]
   cases q <;> cases want <;> rfl
structure Frm (ρ : Ren) (N : Nat) (e : Env) (a : Act) : Prop where
 rel : RelE ρ e a.tmps
 size : a.tmps.size = N
 defers : a.defers = []
theorem Frm.put {ρ ρ' : Ren} {N : Nat} {e : Env} {a : Act} (h : Frm ρ N e a) (hle : Ren.le ρ ρ') {d : Option Tmp} (hd : ∀ t, d = some t → t < N) {v : VV} {mv : Value} (hv : RelV ρ' v mv) :
  Frm ρ' N (e.put d v) (a.put d mv) := by
 refine ⟨(h.rel.mono hle).put d (fun t ht => by rw [h.size]; exact hd t ht) hv, ?_, ?_⟩
 ·cases d <;> simp [Act.put, h.size]
 ·cases d <;> simp [Act.put, h.defers]
theorem vops_wp {call : Caller} (hcall : SoundC P call) {ops : Array Oper} {N : Nat} (Q : Exit → Act → World → Prop) : ∀ (l : List Oper) (e e' : Env) (h h' : VHeap) (ρ : Ren) (a : Act) (w : World),
  vops P call ops l e h = some (e', h') → (∀ o ∈ l, ∀ d, o.dst = some d → d < N) → Frm ρ N e a → Rel ρ h.get w → WF h.get h.next → Gd ρ h.get w →
  (∀ ρ' a' w', Step ρ h.get h.next w ρ' h'.get h'.next w' → Frm ρ' N e' a' → Q .normal a' w') → wpList P ops Q l a w
 | [], e, e', h, h', ρ, a, w, hop, _, hF, hR, hw, hG, hQ => by
  simp only [vops, Option.some.injEq, Prod.mk.injEq] at hop
  obtain ⟨rfl, rfl⟩ := hop
  exact hQ ρ a w (Step.refl hR hw) hF
 | o :: l, e, e', h, h', ρ, a, w, hop, hd, hF, hR, hw, hG, hQ => by
  simp only [vops] at hop
  cases hwt : wantedV ops o e with
  | none => rw [hwt] at hop; cases hop
  | some b =>
   rw [hwt] at hop
   have hwanted := wanted_rel (ρ := ρ) (tmps := a.tmps) hwt (fun j want t _ _ => hF.rel.at_ t)
   cases b with
   | false =>
    simp only at hop
    unfold wpList
    rw [hwanted]
    simp only [Bool.false_eq_true, if_false]
    exact vops_wp hcall Q l _ e' h h' ρ _ w hop (fun o ho => hd o (by simp [ho])) (hF.put (Ren.le.refl ρ) (hd o (by simp)) (skipped_rel ρ)) hR hw hG hQ
   | true =>
    simp only at hop
    cases hv : vop P call o e h with
    | none => rw [hv] at hop; cases hop
    | some p =>
     obtain ⟨v, h1⟩ := p
     rw [hv] at hop
     simp only at hop
     unfold wpList
     rw [hwanted]
     simp only [if_true]
     left
     refine op_wp hcall hv (fun x _ => ev_rel hF.rel x) hR hw hG _ _ fun mv ρ1 w1 hstep hrel => ?_
     exact vops_wp hcall Q l _ e' h1 h' ρ1 _ w1 hop (fun o ho => hd o (by simp [ho])) (hF.put hstep.le (hd o (by simp)) hrel) hstep.rel hstep.wf (hstep.gd hG)
      (fun ρ' a' w' hs hf => hQ ρ' a' w' (hstep.trans hs) hf)
end
end Go.Proofs.Ythlbahcggmbfaaa.V

namespace Go.Proofs.Ythlbahcggmbfaaa.V
open Go.RowKit
section
variable {P : Program}
structure Trace (P : Program) (call : Caller) (ops : Array Oper) (bef : Array Nat) (i n : Nat) (env : Nat → Env) (heap : Nat → VHeap) (val : Nat → VV) (wn : Nat → Bool) : Prop where
 step : ∀ k o, i ≤ k → k < n → ops[k]? = some o → wantedV ops o (env k) = some (wn k) ∧ env (k + 1) = (env k).put o.dst (val k) ∧
  (wn k = true → vop P call o (env k) (heap k) = some (val k, heap (k + 1))) ∧ (wn k = false → val k = skipped ∧ heap (k + 1) = heap k)
 early : ∀ j k oj ok, i ≤ j → j < k → k < n → ops[j]? = some oj → ops[k]? = some ok → wn j = true → wn k = true → kindOf P ok = .read → kindOf P oj = .eff →
  (bef.getD k 0).testBit j = true ∨ readAt P ok (env k) (val k) (heap j) = true
 late : ∀ j k oj ok, i ≤ j → j < k → k < n → ops[j]? = some oj → ops[k]? = some ok → wn j = true → wn k = true → kindOf P ok = .eff → kindOf P oj = .read →
  (bef.getD k 0).testBit j = true ∨ readAt P oj (env j) (val j) (heap (k + 1)) = true
theorem vdraw_trace {call : Caller} {ops : Array Oper} {bef : Array Nat} : ∀ (l : List Oper) (i : Nat) (e e' : Env) (h h' : VHeap) (rs : List (Nat × Oper × Env × VV)) (es : List (Nat × VHeap)),
  vdraw P call ops bef i l e h rs es = some (e', h') → (∀ k, l[k]? = ops[i + k]?) →
  ∃ env heap val wn, env i = e ∧ heap i = h ∧ env (i + l.length) = e' ∧ heap (i + l.length) = h' ∧ Trace P call ops bef i (i + l.length) env heap val wn ∧
   (∀ k o, i ≤ k → k < i + l.length → ops[k]? = some o → wn k = true → kindOf P o = .read → ∀ j hb, (j, hb) ∈ es → (bef.getD k 0).testBit j = true ∨ readAt P o (env k) (val k) hb = true) ∧
   (∀ k o, i ≤ k → k < i + l.length → ops[k]? = some o → wn k = true → kindOf P o = .eff → ∀ j p d u, (j, p, d, u) ∈ rs → (bef.getD k 0).testBit j = true ∨ readAt P p d u (heap (k + 1)) = true)
 | [], i, e, e', h, h', rs, es, hop, _ => by
  simp only [vdraw, Option.some.injEq, Prod.mk.injEq] at hop
  obtain ⟨rfl, rfl⟩ := hop
  exact ⟨fun _ => e, fun _ => h, fun _ => .undef, fun _ => false, rfl, rfl, rfl, rfl, ⟨fun k o h1 h2 => by simp at h2; omega, fun j k oj ok h1 h2 h3 => by simp at h3; omega, fun j k oj ok h1 h2 h3 => by simp at h3; omega⟩,
   fun k o h1 h2 => by simp at h2; omega, fun k o h1 h2 => by simp at h2; omega⟩
 | o :: l, i, e, e', h, h', rs, es, hop, hl => by
  have hi : ops[i]? = some o := by simpa using (hl 0).symm
  have hl' : ∀ k, l[k]? = ops[i + 1 + k]? := fun k => by have := hl (k + 1); rwa [List.getElem?_cons_succ, show i + (k + 1) = i + 1 + k by omega] at this
  have hlen : i + (o :: l).length = i + 1 + l.length := by simp; omega
  rw [hlen]
  
  have build : ∀ (b : Bool) (v : VV) (h1 : VHeap) (rs' : List (Nat × Oper × Env × VV)) (es' : List (Nat × VHeap)),
    vdraw P call ops bef (i + 1) l (e.put o.dst v) h1 rs' es' = some (e', h') → wantedV ops o e = some b → (b = true → vop P call o e h = some (v, h1)) → (b = false → v = skipped ∧ h1 = h) →
    (b = true → kindOf P o = .read → (i, o, e, v) ∈ rs' ∧ ∀ j hb, (j, hb) ∈ es → (bef.getD i 0).testBit j = true ∨ readAt P o e v hb = true) →
    (b = true → kindOf P o = .eff → (i, h) ∈ es' ∧ ∀ j p d u, (j, p, d, u) ∈ rs → (bef.getD i 0).testBit j = true ∨ readAt P p d u h1 = true) →
    (∀ x, x ∈ rs → x ∈ rs') → (∀ x, x ∈ es → x ∈ es') →
    ∃ env heap val wn, env i = e ∧ heap i = h ∧ env (i + 1 + l.length) = e' ∧ heap (i + 1 + l.length) = h' ∧ Trace P call ops bef i (i + 1 + l.length) env heap val wn ∧
     (∀ k o, i ≤ k → k < i + 1 + l.length → ops[k]? = some o → wn k = true → kindOf P o = .read → ∀ j hb, (j, hb) ∈ es → (bef.getD k 0).testBit j = true ∨ readAt P o (env k) (val k) hb = true) ∧
     (∀ k o, i ≤ k → k < i + 1 + l.length → ops[k]? = some o → wn k = true → kindOf P o = .eff → ∀ j p d u, (j, p, d, u) ∈ rs → (bef.getD k 0).testBit j = true ∨ readAt P p d u (heap (k + 1)) = true) := by
   intro b v h1 rs' es' hrest hwant hv hu hrd hef hrs hes
   obtain ⟨env, heap, val, wn, e0, e1, e2, e3, tr, l1, l2⟩ := vdraw_trace l (i + 1) _ e' h1 h' rs' es' hrest hl'
   have hne : ∀ k, i + 1 ≤ k → ¬ k ≤ i := fun k hk => by omega
   have hne' : ∀ k, i + 1 ≤ k → ¬ k = i := fun k hk => by omega
   have self : ops[i]? = some o := hi
   refine ⟨fun k => if k ≤ i then e else env k, fun k => if k ≤ i then h else heap k, fun k => if k = i then v else val k, fun k => if k = i then b else wn k, by simp, by simp,
    by simp only; rw [if_neg (by omega)]; exact e2, by simp only; rw [if_neg (by omega)]; exact e3, ⟨?_, ?_, ?_⟩, ?_, ?_⟩
   ·intro k ok hk1 hk2 hok
    by_cases hki : k = i
    ·subst hki
     rw [hi] at hok; simp only [Option.some.injEq] at hok; subst hok
     simp only [Nat.le_refl, if_true, if_neg (show ¬ k + 1 ≤ k by omega), e0, e1]
     exact ⟨hwant, trivial, hv, hu⟩
    ·simp only [if_neg (show ¬ k ≤ i by omega), if_neg (show ¬ k + 1 ≤ i by omega), if_neg hki]
     exact tr.step k ok (by omega) hk2 hok
   ·intro j k oj ok h1' h2 h3 hoj hok wj wk kk kj
    by_cases hji : j = i
    ·subst hji
     rw [hi] at hoj; simp only [Option.some.injEq] at hoj; subst hoj
     simp only [if_true] at wj
     subst wj
     simp only [if_neg (show ¬ k = j by omega)] at wk
     simp only [if_neg (show ¬ k ≤ j by omega), if_neg (show ¬ k = j by omega), Nat.le_refl, if_true]
     exact l1 k ok (by omega) h3 hok wk kk j h (hef rfl kj).1
    ·simp only [if_neg hji] at wj
     simp only [if_neg (show ¬ k = i by omega)] at wk
     simp only [if_neg (show ¬ k ≤ i by omega), if_neg (show ¬ k = i by omega), if_neg (show ¬ j ≤ i by omega)]
     exact tr.early j k oj ok (by omega) h2 h3 hoj hok wj wk kk kj
   ·intro j k oj ok h1' h2 h3 hoj hok wj wk kk kj
    by_cases hji : j = i
    ·subst hji
     rw [hi] at hoj; simp only [Option.some.injEq] at hoj; subst hoj
     simp only [if_true] at wj
     subst wj
     simp only [if_neg (show ¬ k = j by omega)] at wk
     simp only [if_neg (show ¬ k + 1 ≤ j by omega), Nat.le_refl, if_true]
     exact l2 k ok (by omega) h3 hok wk kk j o e v (hrd rfl kj).1
    ·simp only [if_neg hji] at wj
     simp only [if_neg (show ¬ k = i by omega)] at wk
     simp only [if_neg (show ¬ k + 1 ≤ i by omega), if_neg (show ¬ j = i by omega), if_neg (show ¬ j ≤ i by omega)]
     exact tr.late j k oj ok (by omega) h2 h3 hoj hok wj wk kk kj
   ·intro k ok hk1 hk2 hok wk kk j hb hj
    by_cases hki : k = i
    ·subst hki
     rw [hi] at hok; simp only [Option.some.injEq] at hok; subst hok
     simp only [if_true] at wk
     simp only [Nat.le_refl, if_true]
     exact (hrd wk kk).2 j hb hj
    ·simp only [if_neg hki] at wk
     simp only [if_neg (show ¬ k ≤ i by omega), if_neg hki]
     exact l1 k ok (by omega) hk2 hok wk kk j hb (hes _ hj)
   ·intro k ok hk1 hk2 hok wk kk j p d u hj
    by_cases hki : k = i
    ·subst hki
     rw [hi] at hok; simp only [Option.some.injEq] at hok; subst hok
     simp only [if_true] at wk
     simp only [if_neg (show ¬ k + 1 ≤ k by omega), e1]
     exact (hef wk kk).2 j p d u hj
    ·simp only [if_neg hki] at wk
     simp only [if_neg (show ¬ k + 1 ≤ i by omega)]
     exact l2 k ok (by omega) hk2 hok wk kk j p d u (hrs _ hj)
  simp only [vdraw] at hop
  split at hop
  ·cases hop
  ·rename_i hw0
   exact build false skipped h rs es hop hw0 (fun e => by cases e) (fun _ => ⟨rfl, rfl⟩) (fun e => by cases e) (fun e => by cases e) (fun _ h => h) (fun _ h => h)
  ·rename_i hw0
   split at hop
   ·cases hop
   ·rename_i v h1 hv
    split at hop
    ·rename_i hk
     split at hop
     ·rename_i hall
      refine build true v h1 _ es hop hw0 (fun _ => hv) (fun e => by cases e) (fun _ _ => ⟨by simp, fun j hb hj => ?_⟩) (fun _ hk2 => by rw [hk] at hk2; cases hk2) (fun x hx => by simp [hx]) (fun _ h => h)
      have := List.all_eq_true.1 hall (j, hb) hj
      simpa using this
     ·cases hop
    ·rename_i hk
     split at hop
     ·rename_i hall
      refine build true v h1 rs _ hop hw0 (fun _ => hv) (fun e => by cases e) (fun _ hk2 => by rw [hk] at hk2; cases hk2) (fun _ _ => ⟨by simp, fun j p d u hj => ?_⟩) (fun _ h => h) (fun x hx => by simp [hx])
      have := List.all_eq_true.1 hall (j, p, d, u) hj
      simpa using this
     ·cases hop
    ·rename_i hk1 hk2
     exact build true v h1 rs es hop hw0 (fun _ => hv) (fun e => by cases e) (fun _ hk => absurd hk hk1) (fun _ hk => absurd hk hk2) (fun _ h => h) (fun _ h => h)
end
end Go.Proofs.Ythlbahcggmbfaaa.V

namespace Go.Proofs.Ythlbahcggmbfaaa.V
open Go.RowKit
mutual
theorem same_eq : ∀ (a b : VV), VV.same a b = true → a = b
 | .undef, b, h => by cases b <;> simp [VV.same] at h; rfl
 | .bool x, b, h => by cases b <;> simp [VV.same] at h; rw [h]
 | .int j x, b, h => by cases b <;> simp [VV.same] at h; rw [h.1, h.2]
 | .str s, b, h => by
  cases b <;> simp [VV.same] at h
  rename_i t
  obtain ⟨⟨x⟩⟩ := s
  obtain ⟨⟨y⟩⟩ := t
  simp at h; rw [h]
 | .nilptr, b, h => by cases b <;> simp [VV.same] at h; rfl
 | .ptr x y z, b, h => by cases b <;> simp [VV.same] at h; rw [h.1.1, h.1.2, h.2]
 | .nilslice, b, h => by cases b <;> simp [VV.same] at h; rfl
 | .slice x y z u v, b, h => by cases b <;> simp [VV.same] at h; obtain ⟨⟨⟨⟨h1, h2⟩, h3⟩, h4⟩, h5⟩ := h; rw [h1, h2, h3, h4, h5]
 | .nilmap, b, h => by cases b <;> simp [VV.same] at h; rfl
 | .map x, b, h => by cases b <;> simp [VV.same] at h; rw [h]
 | .nilfunc, b, h => by cases b <;> simp [VV.same] at h; rfl
 | .func f x y, b, h => by
  cases b <;> (try (cases f <;> simp [VV.same] at h; done))
  rename_i g u v
  cases f <;> cases g <;> simp [VV.same] at h
  rw [h.1.1, sames_eq x u h.1.2, sames_eq y v h.2]
 | .niliface, b, h => by cases b <;> simp [VV.same] at h; rfl
 | .iface t x, b, h => by
  cases b <;> simp [VV.same] at h
  rw [h.1, same_eq x _ h.2]
 | .agg x, b, h => by
  cases b <;> simp [VV.same] at h
  rw [sames_eq x _ h]
 | .tuple x, b, h => by
  cases b <;> simp [VV.same] at h
  rw [sames_eq x _ h]
theorem sames_eq : ∀ (a b : List VV), VV.sames a b = true → a = b
 | [], b, h => by cases b <;> simp [VV.sames] at h; rfl
 | x :: a, b, h => by
  cases b with
  | nil => simp [VV.sames] at h
  | cons y b =>
   simp [VV.sames] at h
   rw [same_eq x y h.1, sames_eq a b h.2]
end
section
variable {P : Program}
theorem readAt_spec {o : Oper} {e : Env} {v : VV} {h : VHeap} (hr : readAt P o e v h = true) : ∃ h', vop P (fun _ _ _ => none) o e h = some (v, h') := by
 unfold readAt at hr
 split at hr
 ·rename_i u h' hv
  exact ⟨h', by rw [hv, same_eq u v hr]⟩
 ·cases hr
theorem quiet_heap {call : Caller} {o : Oper} {e : Env} {h h' : VHeap} {v : VV} (hk : kindOf P o = .pure ∨ kindOf P o = .read) (hop : vop P call o e h = some (v, h')) : h' = h := by
 have pureV : ∀ {x : Option VV}, x.map (fun v => (v, h)) = some (v, h') → h' = h := by
  intro x hx
  simp only [Option.map_eq_some_iff, Prod.mk.injEq] at hx
  obtain ⟨u, hu, rfl, rfl⟩ := hx
  rfl
 have someV : ∀ {x : VV}, some (x, h) = some (v, h') → h' = h := by
  intro x hx
  simp only [Option.some.injEq, Prod.mk.injEq] at hx
  exact hx.2.symm
 obtain ⟨dst, op, type, pos, after, guard⟩ := o
 cases op <;> simp only [vop, kindOf] at hop hk <;> (try (rcases hk with hk | hk <;> cases hk; done)) <;> (try (cases hop; done)) <;> (try (exact pureV hop)) <;> (try (exact someV hop))
 case convert src dst x =>
  split at hop
  ·exact pureV hop
  ·rename_i e1 e2
   simp only [e1, e2] at hk
   rcases hk with hk | hk <;> cases hk
  ·exact pureV hop
 case call c =>
  obtain ⟨callee, args, argTypes⟩ := c
  cases callee with
  | value f => rcases hk with hk | hk <;> cases hk
  | invoke r m => rcases hk with hk | hk <;> cases hk
  | builtin b =>
   cases b <;> (try (rcases hk with hk | hk <;> cases hk; done)) <;> simp only [vcall] at hop
   case len =>
    generalize argsOf e args = L at hop
    rcases L with _ | ⟨x, _ | ⟨y, L⟩⟩ <;> (try dsimp only at hop) <;> (try (cases hop; done))
    split at hop <;> first | exact someV hop | (cases hop; done) | skip
    simp only [Option.map_eq_some_iff, Prod.mk.injEq] at hop
    obtain ⟨u, hu, _, rfl⟩ := hop
    rfl
   case max =>
    generalize argsOf e args = L at hop
    rcases L with _ | ⟨x, _ | ⟨y, _ | ⟨z, L⟩⟩⟩ <;> (try dsimp only at hop) <;> (try (cases hop; done)) <;> cases x <;> (try dsimp only at hop) <;> (try (cases hop; done)) <;> cases y <;> (try dsimp only at hop) <;> (try (cases hop; done))
    exact someV hop
   case min =>
    generalize argsOf e args = L at hop
    rcases L with _ | ⟨x, _ | ⟨y, _ | ⟨z, L⟩⟩⟩ <;> (try dsimp only at hop) <;> (try (cases hop; done)) <;> cases x <;> (try dsimp only at hop) <;> (try (cases hop; done)) <;> cases y <;> (try dsimp only at hop) <;> (try (cases hop; done))
    exact someV hop
 all_goals
  repeat' (first | exact pureV hop | exact someV hop | (cases hop; done) | split at hop)
 all_goals
  simp only [Option.map_eq_some_iff, Prod.mk.injEq] at hop
  obtain ⟨u, hu, _, rfl⟩ := hop
  rfl
theorem alloc_push {call : Caller} {o : Oper} {e : Env} {h h' : VHeap} {v : VV} (hk : kindOf P o = .alloc) (hop : vop P call o e h = some (v, h')) : ∃ obj, h' = h.push obj := by
 obtain ⟨dst, op, type, pos, after, guard⟩ := o
 cases op <;> simp only [vop, kindOf] at hop hk <;> (try (cases hk; done)) <;> (try (cases hop; done))
 case alloc t =>
  split at hop
  ·split at hop
   ·cases hop
   ·simp only [Option.some.injEq, Prod.mk.injEq] at hop; exact ⟨_, hop.2.symm⟩
  ·cases hop
 case box t x =>
  split at hop
  ·simp only [Option.some.injEq, Prod.mk.injEq] at hop; exact ⟨_, hop.2.symm⟩
  ·cases hop
 case buildSlice t len parts =>
  unfold vbuildSlice at hop
  split at hop
  ·split at hop
   ·simp only at hop
    split at hop
    ·cases hop
    ·split at hop
     ·split at hop
      ·simp only [Option.some.injEq, Prod.mk.injEq] at hop; exact ⟨_, hop.2.symm⟩
      ·cases hop
     ·cases hop
   ·cases hop
  ·cases hop
 case makeMap t r =>
  cases r with
  | some x => cases hop
  | none => simp only [Option.some.injEq, Prod.mk.injEq] at hop; exact ⟨_, hop.2.symm⟩
 case makeSlice t x y =>
  split at hop
  ·split at hop
   ·split at hop
    ·simp only [Option.some.injEq, Prod.mk.injEq] at hop; exact ⟨_, hop.2.symm⟩
    ·cases hop
   ·cases hop
  ·cases hop
 case convert src dst x =>
  split at hop
  ·rename_i e1 e2
   simp only [e1, e2] at hk
   cases hk
  ·unfold vconvNew at hop
   split at hop
   ·split at hop
    ·split at hop
     ·cases hop
     ·simp only [Option.some.injEq, Prod.mk.injEq] at hop; exact ⟨_, hop.2.symm⟩
    ·cases hop
   ·cases hop
  ·rename_i h1 h2
   exfalso
   split at hk
   ·exact h1 _ ‹_› ‹_›
   ·exact h2 _ ‹_› ‹_›
   ·cases hk
 case call c =>
  obtain ⟨callee, args, argTypes⟩ := c
  exfalso
  cases callee with
  | value f => cases hk
  | invoke r m => cases hk
  | builtin b =>
   cases b <;> first | (cases hk; done) | skip
   simp only at hk
   split at hk <;> cases hk
theorem mem_zipIdx {ops : Array Oper} {k : Nat} {x : Oper} (hk : ops[k]? = some x) : (x, k) ∈ ops.toList.zipIdx := by
 rw [List.mem_iff_getElem?]
 exact ⟨k, by rw [List.getElem?_zipIdx]; simp [hk]⟩
theorem drawOK_spec {ops : Array Oper} (h : drawOK P ops = true) {i j : Nat} {o p : Oper} (hj : ops[j]? = some o) (hi : ops[i]? = some p) (hlt : i < j)
  (hc : (isEff P o = true ∧ inChain P p = true) ∨ (∃ t, p.dst = some t ∧ t ∈ namesOf ops o) ∨ (∃ t, o.dst = some t ∧ t ∈ namesOf ops p)) :
  ((Region.before ops).getD j 0).testBit i = true := by
 unfold drawOK at h
 have h1 := List.all_eq_true.1 h (o, j) (mem_zipIdx hj)
 simp only [Bool.and_eq_true] at h1
 have h2 := List.all_eq_true.1 h1.1.2 (p, i) (mem_zipIdx hi)
 simp only [Bool.or_eq_true] at h2
 rcases h2 with (h2 | h2) | h2
 ·have := Nat.le_of_ble_eq_true h2; omega
 ·exact h2
 ·exfalso
  rcases hc with ⟨c1, c2⟩ | ⟨t, c1, c2⟩ | ⟨t, c1, c2⟩
  ·simp [c1, c2] at h2
  ·simp [c1, c2] at h2
  ·simp [c1, c2] at h2
theorem drawOK_edge {ops : Array Oper} (h : drawOK P ops = true) {j : Nat} {o : Oper} (hj : ops[j]? = some o) {e : Edge} (he : e ∈ o.after) (hb : Region.binds .any e = true) : e.on < j := by
 unfold drawOK at h
 have h1 := List.all_eq_true.1 h (o, j) (mem_zipIdx hj)
 simp only [Bool.and_eq_true] at h1
 have h2 := List.all_eq_true.1 h1.1.1 e (by simpa using he)
 simp only [hb, Bool.not_true, Bool.false_or] at h2
 exact Nat.lt_of_lt_of_le (Nat.lt_succ_self _) (Nat.le_of_ble_eq_true h2)
theorem drawOK_ahead {ops : Array Oper} (h : drawOK P ops = true) {i j k : Nat} {o p q : Oper} (hj : ops[j]? = some o) (he : isEff P o = false) (hc : inChain P o = true) (hi : ops[i]? = some p) (hji : j < i) {t : Tmp} (hd : o.dst = some t) (ht : t ∈ namesOf ops p)
  (hk : ops[k]? = some q) (hkj : k < j) (hq : inChain P q = true) : ((Region.before ops).getD i 0).testBit k = true := by
 unfold drawOK at h
 have h1 := List.all_eq_true.1 h (o, j) (mem_zipIdx hj)
 simp only [Bool.and_eq_true, he, hc, Bool.not_true, Bool.false_or] at h1
 have h2 := List.all_eq_true.1 h1.2 (p, i) (mem_zipIdx hi)
 simp only [hd, Bool.or_eq_true] at h2
 rcases h2 with (h2 | h2) | h2
 ·have := Nat.le_of_ble_eq_true h2; omega
 ·simp [ht] at h2
 ·have h3 := List.all_eq_true.1 h2 (q, k) (mem_zipIdx hk)
  simp only [Bool.or_eq_true] at h3
  rcases h3 with (h3 | h3) | h3
  ·have := Nat.le_of_ble_eq_true h3; omega
  ·simp [hq] at h3
  ·exact h3
theorem eff_of {o : Oper} (he : isEff P o = true) : kindOf P o = .eff := by
 unfold isEff at he
 cases hk : kindOf P o <;> simp_all
def Down (ops : Array Oper) (S : Nat → Prop) : Prop := ∀ j o, S j → ops[j]? = some o → ∀ e ∈ o.after, Region.binds .any e = true → S e.on
theorem before_down {ops : Array Oper} {S : Nat → Prop} (hS : Down ops S) {i j : Nat} (hb : ((Region.before ops).getD j 0).testBit i = true) (hj : S j) : S i := by
 have edges : ∀ (acc : Array Nat) (l : List Edge) (s : Nat) (i : Nat),
   (l.foldl (fun s e => if Region.binds .any e then s ||| 2 ^ e.on ||| acc.getD e.on 0 else s) s).testBit i = true → s.testBit i = true ∨ ∃ e ∈ l, Region.binds .any e = true ∧ (i = e.on ∨ (acc.getD e.on 0).testBit i = true) := by
  intro acc l
  induction l with
  | nil => intro s i h; exact .inl h
  | cons e l ih =>
   intro s i h
   rw [List.foldl_cons] at h
   rcases ih _ i h with h | ⟨e', he', h2, h3⟩
   ·by_cases hbd : Region.binds .any e = true
    ·rw [if_pos hbd, Nat.testBit_or, Nat.testBit_or, Nat.testBit_two_pow] at h
     simp only [Bool.or_eq_true, decide_eq_true_eq] at h
     rcases h with (h | h) | h
     ·exact .inl h
     ·exact .inr ⟨e, by simp, hbd, .inl h.symm⟩
     ·exact .inr ⟨e, by simp, hbd, .inr h⟩
    ·rw [if_neg hbd] at h; exact .inl h
   ·exact .inr ⟨e', by simp [he'], h2, h3⟩
 have main : ∀ (l : List Oper) (acc : Array Nat), (∀ k, l[k]? = ops[acc.size + k]?) → (∀ j i, (acc.getD j 0).testBit i = true → S j → S i) →
   ∀ j i, ((l.foldl (fun acc o => acc.push (o.after.foldl (fun s e => if Region.binds .any e then s ||| 2 ^ e.on ||| acc.getD e.on 0 else s) 0)) acc).getD j 0).testBit i = true → S j → S i := by
  intro l
  induction l with
  | nil => intro acc _ h j i hb hj; exact h j i hb hj
  | cons o l ih =>
   intro acc hl h j i hb hj
   rw [List.foldl_cons] at hb
   refine ih _ (fun k => ?_) ?_ j i hb hj
   ·have := hl (k + 1)
    rw [List.getElem?_cons_succ] at this
    rw [this, Array.size_push]
    congr 1; omega
   ·intro j i hb hj
    by_cases hlt : j < acc.size
    ·have e : (acc.push (o.after.foldl (fun s e => if Region.binds .any e then s ||| 2 ^ e.on ||| acc.getD e.on 0 else s) 0)).getD j 0 = acc.getD j 0 := by
      simp [Array.getD_eq_getD_getElem?, Array.getElem?_push, Nat.ne_of_lt hlt]
     rw [e] at hb
     exact h j i hb hj
    ·by_cases heq : j = acc.size
     ·subst heq
      have e : (acc.push (o.after.foldl (fun s e => if Region.binds .any e then s ||| 2 ^ e.on ||| acc.getD e.on 0 else s) 0)).getD acc.size 0 = o.after.foldl (fun s e => if Region.binds .any e then s ||| 2 ^ e.on ||| acc.getD e.on 0 else s) 0 := by
       simp [Array.getD_eq_getD_getElem?]
      rw [e, ← Array.foldl_toList] at hb
      have ho : ops[acc.size]? = some o := by have := hl 0; simpa using this.symm
      rcases edges acc _ _ i hb with h1 | ⟨ed, hed, hbd, h2⟩
      ·simp at h1
      ·have hon := hS acc.size o hj ho ed (by simpa using hed) hbd
       rcases h2 with rfl | h2
       ·exact hon
       ·exact h _ _ h2 hon
     ·have e : (acc.push (o.after.foldl (fun s e => if Region.binds .any e then s ||| 2 ^ e.on ||| acc.getD e.on 0 else s) 0)).getD j 0 = 0 := by
       simp only [Array.getD_eq_getD_getElem?]
       rw [Array.getElem?_eq_none (by simp; omega)]
       rfl
      rw [e] at hb
      simp at hb
 unfold Region.before at hb
 rw [← Array.foldl_toList] at hb
 exact main ops.toList #[] (fun k => by simp) (fun j i hb => by simp at hb) j i hb hj
def curAt (ops : Array Oper) (val : Nat → VV) (S : Nat → Bool) (e0 : Env) : Nat → Tmp → VV
 | 0, t => e0.get t
 | k + 1, t => if S k = true ∧ (ops[k]?).bind (·.dst) = some t then val k else curAt ops val S e0 k t
theorem env_cur {call : Caller} {ops : Array Oper} {bef : Array Nat} {n : Nat} {env : Nat → Env} {heap : Nat → VHeap} {val : Nat → VV} {wn : Nat → Bool} (tr : Trace P call ops bef 0 n env heap val wn) (hn : n = ops.size) :
  ∀ k, k ≤ n → ∀ t, (env k).get t = curAt ops val (fun _ => true) (env 0) k t
 | 0, _, t => rfl
 | k + 1, hk, t => by
  obtain ⟨o, ho⟩ : ∃ o, ops[k]? = some o := ⟨ops[k]'(by omega), Array.getElem?_eq_getElem (by omega)⟩
  obtain ⟨_, h2, _⟩ := tr.step k o (Nat.zero_le _) (by omega) ho
  have ih := env_cur tr hn k (by omega) t
  rw [h2]
  simp only [curAt, ho, Option.bind_some, true_and]
  cases hd : o.dst with
  | none => simp only [Env.put]; rw [if_neg (by simp)]; exact ih
  | some d =>
   simp only [Env.put, Env.get_set]
   by_cases ht : t = d
   ·subst ht; rw [if_pos rfl, if_pos rfl]
   ·rw [if_neg ht, if_neg (fun e => ht (by simpa using e.symm))]; exact ih
theorem cur_agree {ops : Array Oper} (hok : drawOK P ops = true) {S : Nat → Bool} {val : Nat → VV} {e0 : Env} (hS : Down ops (fun k => S k = true)) {i : Nat} {o : Oper} (ho : ops[i]? = some o) (hi : S i = false)
  (hready : ∀ e ∈ o.after, Region.binds .any e = true → S e.on = true) {t : Tmp} (ht : t ∈ namesOf ops o) : ∀ k, curAt ops val S e0 k t = curAt ops val (fun _ => true) e0 (min k i) t
 | 0 => by simp [curAt]
 | k + 1 => by
  have ih := cur_agree hok (val := val) (e0 := e0) hS ho hi hready ht k
  
  have hdown : Down ops (fun k => S k = true ∨ k = i) := by
   intro j p hj hp e he hb
   rcases hj with hj | rfl
   ·exact .inl (hS j p hj hp e he hb)
   ·rw [ho] at hp; simp only [Option.some.injEq] at hp; subst hp
    exact .inl (hready e he hb)
  simp only [curAt]
  by_cases hki : k < i
  ·rw [show min (k + 1) i = k + 1 by omega]
   rw [show min k i = k by omega] at ih
   simp only [curAt, true_and]
   by_cases hd : (ops[k]?).bind (·.dst) = some t
   ·obtain ⟨p, hp, hpd⟩ := Option.bind_eq_some_iff.1 hd
    have hb := drawOK_spec hok ho hp hki (.inr (.inl ⟨t, hpd, ht⟩))
    have hSk := before_down hdown hb (.inr rfl)
    rcases hSk with hSk | hSk
    ·rw [if_pos ⟨hSk, hd⟩, if_pos hd]
    ·omega
   ·rw [if_neg (fun h => hd h.2), if_neg hd]; exact ih
  ·rw [show min (k + 1) i = i by omega]
   rw [show min k i = i by omega] at ih
   rw [if_neg]
   ·exact ih
   ·rintro ⟨hSk, hd⟩
    by_cases hke : k = i
    ·subst hke; rw [hi] at hSk; cases hSk
    ·obtain ⟨p, hp, hpd⟩ := Option.bind_eq_some_iff.1 hd
     have hb := drawOK_spec hok hp ho (by omega) (.inr (.inr ⟨t, hpd, ht⟩))
     have : S i = true := before_down hS hb hSk
     rw [hi] at this; cases this
theorem cur_set {ops : Array Oper} (hok : drawOK P ops = true) {S S' : Nat → Bool} {val : Nat → VV} {e0 : Env} (hS : Down ops (fun k => S k = true)) {i : Nat} {o : Oper} (ho : ops[i]? = some o) (hi : S i = false)
  (hS' : ∀ k, S' k = if k = i then true else S k) (t : Tmp) : ∀ k, curAt ops val S' e0 k t = if i < k ∧ o.dst = some t then val i else curAt ops val S e0 k t
 | 0 => by simp [curAt]
 | k + 1 => by
  have ih := cur_set hok (val := val) (e0 := e0) hS ho hi hS' t k
  simp only [curAt, hS']
  by_cases hki : k = i
  ·subst hki
   simp only [if_true, true_and, ho, Option.bind_some]
   by_cases hd : o.dst = some t
   ·rw [if_pos hd, if_pos ⟨by omega, hd⟩]
   ·rw [if_neg hd, if_neg (fun h => hd h.2), ih, if_neg (fun h => hd h.2), if_neg (fun h => hd h.2)]
  ·rw [if_neg hki, ih]
   by_cases hc : S k = true ∧ (ops[k]?).bind (·.dst) = some t
   ·rw [if_pos hc, if_pos hc, if_neg]
    rintro ⟨hlt, hd⟩
    obtain ⟨p, hp, hpd⟩ := Option.bind_eq_some_iff.1 hc.2
    have hb := drawOK_spec hok hp ho (by omega) (.inr (.inl ⟨t, hd, by simp [namesOf, hpd]⟩))
    have : S i = true := before_down hS hb hc.1
    rw [hi] at this; cases this
   ·rw [if_neg hc, if_neg hc]
    by_cases hlt : i < k
    ·by_cases hd : o.dst = some t
     ·rw [if_pos ⟨hlt, hd⟩, if_pos ⟨by omega, hd⟩]
     ·rw [if_neg (fun h => hd h.2), if_neg (fun h => hd h.2)]
    ·rw [if_neg (fun h => hlt h.1), if_neg (fun h => by omega)]
end
end Go.Proofs.Ythlbahcggmbfaaa.V

namespace Go.Proofs.Ythlbahcggmbfaaa.V
open Go.RowKit
section
variable {P : Program}
def unrun (S : Nat → Bool) : Nat → Nat
 | 0 => 0
 | k + 1 => (if S k then 0 else 1) + unrun S k
theorem unrun_set {S S' : Nat → Bool} {i : Nat} (hi : S i = false) (hS' : ∀ k, S' k = if k = i then true else S k) : ∀ n, unrun S n = unrun S' n + (if i < n then 1 else 0)
 | 0 => by simp [unrun]
 | n + 1 => by
  have ih := unrun_set hi hS' n
  simp only [unrun, hS']
  by_cases hni : n = i
  ·subst hni; simp only [hi, if_true]; rw [if_neg (by omega)] at ih; simp; omega
  ·rw [if_neg hni]
   by_cases hlt : i < n
   ·rw [if_pos hlt] at ih; rw [if_pos (show i < n + 1 by omega)]; omega
   ·rw [if_neg hlt] at ih; rw [if_neg (show ¬ i < n + 1 by omega)]; omega
theorem unrun_zero {S : Nat → Bool} : ∀ n, unrun S n = 0 → ∀ k, k < n → S k = true
 | 0, _, k, hk => by omega
 | n + 1, h, k, hk => by
  simp only [unrun] at h
  by_cases hkn : k = n
  ·subst hkn
   cases hS : S k with
   | true => rfl
   | false => rw [hS] at h; simp at h
  ·exact unrun_zero n (by omega) k (by omega)
variable {call : Caller} {ops : Array Oper} {bef : Array Nat} {n : Nat} {env : Nat → Env} {heap : Nat → VHeap} {val : Nat → VV} {wn : Nat → Bool}
theorem heap_grows (tr : Trace P call ops bef 0 n env heap val wn) (hn : n = ops.size) (i j : Nat) (hij : i ≤ j) (hj : j ≤ n) (h : ∀ k o, i ≤ k → k < j → ops[k]? = some o → wn k = true → kindOf P o ≠ .eff) :
  ∀ b o, (heap i).get b = some o → (heap j).get b = some o := by
 induction j with
 | zero => rw [show i = 0 by omega]; exact fun _ _ h => h
 | succ j ih =>
  by_cases hi : i = j + 1
  ·rw [hi]; exact fun _ _ h => h
  ·have ih := ih (by omega) (by omega) (fun k o h1 h2 => h k o h1 (by omega))
   obtain ⟨o, ho⟩ : ∃ o, ops[j]? = some o := ⟨ops[j]'(by omega), Array.getElem?_eq_getElem (by omega)⟩
   obtain ⟨_, _, h3, h4⟩ := tr.step j o (Nat.zero_le _) (by omega) ho
   intro b ob hb
   have hb1 := ih b ob hb
   cases hw : wn j with
   | false => rw [(h4 hw).2]; exact hb1
   | true =>
    have hne := h j o (by omega) (by omega) ho hw
    cases hk : kindOf P o with
    | eff => exact absurd hk hne
    | pure => rw [quiet_heap (.inl hk) (h3 hw)]; exact hb1
    | read => rw [quiet_heap (.inr hk) (h3 hw)]; exact hb1
    | alloc =>
     obtain ⟨obj, hpush⟩ := alloc_push hk (h3 hw)
     rw [hpush, VHeap.get_push, if_neg (by have := VHeap.get_lt hb1; omega)]
     exact hb1
def IsEarly (P : Program) (ops : Array Oper) (wn : Nat → Bool) (n : Nat) (S : Nat → Bool) (c k : Nat) : Prop := S k = true ∧ c ≤ k ∧ k < n ∧ wn k = true ∧ ∃ o, ops[k]? = some o ∧ inChain P o = true
structure Early (ops : Array Oper) (heap : Nat → VHeap) (val : Nat → VV) (w0 : World) (ρ : Ren) (a : Act) (w : World) (l : Loc) (k : Nat) : Prop where
 ex : ∃ obj m mv, heap (k + 1) = (heap k).push obj ∧ (∀ q, obj = .cells q → q.fam = (heap k).next) ∧ RelO ρ l obj (some m) ∧ w.heap[l.mb]? = some m ∧
  (∀ ρ' : Ren, ρ' (heap k).next = some l → RelV ρ' (val k) mv) ∧ ∀ o t, ops[k]? = some o → o.dst = some t → a.tmps.getD t undef = mv
 far : w0.heap.size ≤ l.mb
 free : ∀ b l', ρ b = some l' → l'.mb ≠ l.mb
theorem Early.next {w0 : World} {ρ ρ' : Ren} {a a' : Act} {w w' : World} {l : Loc} {k : Nat} (h : Early ops heap val w0 ρ a w l k) (hle : Ren.le ρ ρ') (hw : w'.heap[l.mb]? = w.heap[l.mb]?)
  (hf : ∀ b l', ρ' b = some l' → l'.mb ≠ l.mb) (ht : ∀ o t, ops[k]? = some o → o.dst = some t → a'.tmps.getD t undef = a.tmps.getD t undef) : Early ops heap val w0 ρ' a' w' l k := by
 obtain ⟨obj, m, mv, h1, h2, h3, h4, h5, h6⟩ := h.ex
 exact ⟨⟨obj, m, mv, h1, h2, h3.mono hle, hw.trans h4, h5, fun o t ho hd => (ht o t ho hd).trans (h6 o t ho hd)⟩, h.far, hf⟩
structure Mid (P : Program) (ops : Array Oper) (n N : Nat) (env : Nat → Env) (heap : Nat → VHeap) (val : Nat → VV) (wn : Nat → Bool) (S : Nat → Bool) (ρ0 : Ren) (w0 : World) (a : Act) (w : World) (ρ : Ren) (c : Nat) (el : Nat → Loc) : Prop where
 down : Down ops (fun k => S k = true)
 cn : c ≤ n
 chainE : ∀ k o, k < n → ops[k]? = some o → isEff P o = true → S k = true → k < c
 chain : ∀ k o, k < n → ops[k]? = some o → inChain P o = true → k < c → S k = true
 step : Step ρ0 (heap 0).get (heap 0).next w0 ρ (heap c).get (heap c).next w
 env : ∀ t, (∀ k, IsEarly P ops wn n S c k → ∀ o, ops[k]? = some o → o.dst ≠ some t) → RelV ρ (curAt ops val S (env 0) n t) (a.tmps.getD t undef)
 early : ∀ k, IsEarly P ops wn n S c k → Early ops heap val w0 ρ a w (el k) k
 dis : ∀ j k, IsEarly P ops wn n S c j → IsEarly P ops wn n S c k → j ≠ k → (el j).mb ≠ (el k).mb
 unnamed : ∀ k, IsEarly P ops wn n S c k → ∀ o t, ops[k]? = some o → o.dst = some t → ∀ i p, k < i → ops[i]? = some p → S i = true → t ∉ namesOf ops p
 size : a.tmps.size = N
 defers : a.defers = []
 beyond : ∀ k, n ≤ k → S k = false
theorem curAt_last {S : Nat → Bool} {e0 : Env} {c : Nat} {t : Tmp} (hS : S c = true) (hd : (ops[c]?).bind (·.dst) = some t) : ∀ n, c < n → (∀ k, c < k → k < n → S k = true → (ops[k]?).bind (·.dst) ≠ some t) → curAt ops val S e0 n t = val c
 | 0, h, _ => by omega
 | n + 1, h, hl => by
  simp only [curAt]
  by_cases hn : n = c
  ·subst hn; rw [if_pos ⟨hS, hd⟩]
  ·rw [if_neg (fun hh => hl n (by omega) (by omega) hh.1 hh.2)]
   exact curAt_last hS hd n (by omega) (fun k h1 h2 => hl k h1 (by omega))
theorem wf_push {h : VHeap} (hw : WF h.get h.next) (o : VObj) (hf : ∀ k, o = .cells k → k.fam = h.next) : WF (h.push o).get (h.next + 1) := by
 refine ⟨?_, ?_, ?_, ?_, ?_⟩
 ·intro b o' hb
  rw [VHeap.get_push] at hb
  split at hb
  ·omega
  ·have := hw.lt b o' hb; omega
 ·intro b k hb
  rw [VHeap.get_push] at hb
  split at hb
  ·simp only [Option.some.injEq] at hb; have := hf k hb; omega
  ·have := hw.fam b k hb; omega
 ·intro b k hb hs b' k' hb' hne
  rw [VHeap.get_push] at hb hb'
  split at hb
  ·rename_i e; subst e
   simp only [Option.some.injEq] at hb
   rw [if_neg hne] at hb'
   have := hw.fam b' k' hb'
   have := hf k hb
   omega
  ·split at hb'
   ·simp only [Option.some.injEq] at hb'
    have := hw.fam b k hb
    have := hf k' hb'
    omega
   ·exact hw.solo b k hb hs b' k' hb' hne
 ·intro b k hb hs b' k' hb' hfam
  rw [VHeap.get_push] at hb hb'
  split at hb
  ·rename_i e; subst e
   split at hb'
   ·rename_i e'; subst e'
    rw [hb] at hb'
    simp only [Option.some.injEq, VObj.cells.injEq] at hb'; subst hb'; exact .inr (Nat.le_refl _)
   ·simp only [Option.some.injEq] at hb
    have := hw.fam b' k' hb'
    have := hf k hb
    omega
  ·split at hb'
   ·simp only [Option.some.injEq] at hb'
    have := hw.fam b k hb
    have := hf k' hb'
    omega
   ·exact hw.last b k hb hs b' k' hb' hfam
 ·intro b k hb hs b' k' hb' hfam hs'
  rw [VHeap.get_push] at hb hb'
  split at hb
  ·rename_i e; subst e
   split at hb'
   ·assumption
   ·simp only [Option.some.injEq] at hb
    have := hw.fam b' k' hb'
    have := hf k hb
    omega
  ·split at hb'
   ·simp only [Option.some.injEq] at hb'
    have := hw.fam b k hb
    have := hf k' hb'
    omega
   ·exact hw.last1 b k hb hs b' k' hb' hfam hs'
theorem Mid.raise (tr : Trace P call ops (Region.before ops) 0 n env heap val wn) (hn : n = ops.size) {N : Nat} {S : Nat → Bool} {ρ0 ρ : Ren} {w0 w : World} {a : Act} {c : Nat} {el : Nat → Loc} (hM : Mid P ops n N env heap val wn S ρ0 w0 a w ρ c el)
  (hc : c < n) (hS : ∀ o, ops[c]? = some o → inChain P o = true → S c = true) : ∃ ρ', Mid P ops n N env heap val wn S ρ0 w0 a w ρ' (c + 1) el := by
 obtain ⟨o, ho⟩ : ∃ o, ops[c]? = some o := ⟨ops[c]'(by omega), Array.getElem?_eq_getElem (by omega)⟩
 obtain ⟨_, _, h3, h4⟩ := tr.step c o (Nat.zero_le _) hc ho
 have up : ∀ k, IsEarly P ops wn n S (c + 1) k → IsEarly P ops wn n S c k := fun k ⟨e1, e2, e3⟩ => ⟨e1, by omega, e3⟩
 have chain' : ∀ k q, k < n → ops[k]? = some q → inChain P q = true → k < c + 1 → S k = true := by
  intro k q hk hq hqc hlt
  by_cases hkc : k = c
  ·subst hkc; exact hS q hq hqc
  ·exact hM.chain k q hk hq hqc (by omega)
 have chainE' : ∀ k q, k < n → ops[k]? = some q → isEff P q = true → S k = true → k < c + 1 := fun k q hk hq he hs => Nat.lt_succ_of_lt (hM.chainE k q hk hq he hs)
 have still : heap (c + 1) = heap c → ¬ IsEarly P ops wn n S c c → ∃ ρ', Mid P ops n N env heap val wn S ρ0 w0 a w ρ' (c + 1) el := by
  intro hh hne
  have dn : ∀ k, IsEarly P ops wn n S c k → IsEarly P ops wn n S (c + 1) k := fun k hk => by
   have : k ≠ c := fun e => hne (e ▸ hk)
   obtain ⟨e1, e2, e3⟩ := hk
   exact ⟨e1, by omega, e3⟩
  exact ⟨ρ, hM.down, hc, chainE', chain', by rw [hh]; exact hM.step, fun t ht => hM.env t fun k hk => ht k (dn k hk), fun k hk => hM.early k (up k hk), fun j k hj hk => hM.dis j k (up j hj) (up k hk),
   fun k hk => hM.unnamed k (up k hk), hM.size, hM.defers, hM.beyond⟩
 cases hw : wn c with
 | false => exact still (h4 hw).2 (fun h => by have := h.2.2.2.1; rw [hw] at this; cases this)
 | true =>
  cases hch : inChain P o with
  | false =>
   refine still (quiet_heap (by unfold inChain at hch; cases hk : kindOf P o <;> simp_all) (h3 hw)) (fun h => ?_)
   obtain ⟨o', ho', hc'⟩ := h.2.2.2.2
   rw [ho] at ho'; simp only [Option.some.injEq] at ho'; subst ho'
   rw [hch] at hc'; cases hc'
  | true =>
   have hSc := hS o ho hch
   have hE : IsEarly P ops wn n S c c := ⟨hSc, Nat.le_refl _, hc, hw, o, ho, hch⟩
   obtain ⟨obj, m, mv, q1, q2, q3, q4, q5, q6⟩ := (hM.early c hE).ex
   have hnx := hM.step.rel.none hM.step.wf (Nat.le_refl (heap c).next)
   have hle := Ren.le_add (l := el c) hnx
   have hin : (ρ.add (heap c).next (el c)) (heap c).next = some (el c) := by simp [Ren.add]
   have hother : ∀ b l', (ρ.add (heap c).next (el c)) b = some l' → ρ b = some l' ∨ (b = (heap c).next ∧ l' = el c) := by
    intro b l' hb
    unfold Ren.add at hb
    split at hb
    ·rename_i e; simp only [Option.some.injEq] at hb; exact .inr ⟨e, hb.symm⟩
    ·exact .inl hb
   have hget : ∀ b ob, (heap c).get b = some ob → (heap (c + 1)).get b = some ob := by
    intro b ob hb
    rw [q1, VHeap.get_push, if_neg (by have := VHeap.get_lt hb; omega)]
    exact hb
   refine ⟨ρ.add (heap c).next (el c), hM.down, hc, chainE', chain', ?_, ?_, ?_, fun j k hj hk => hM.dis j k (up j hj) (up k hk), fun k hk => hM.unnamed k (up k hk), hM.size, hM.defers, hM.beyond⟩
   ·refine ⟨hM.step.rel0, ?_, ?_, hM.step.le.trans hle, ?_, hM.step.os, hM.step.tape, hM.step.output, hM.step.size, hM.step.old, ?_, ?_, ?_⟩
    ·rw [q1]
     refine hM.step.rel.insert (o := obj) hnx (by rw [VHeap.get_push, if_pos rfl]) (fun b hb _ => by rw [VHeap.get_push, if_neg hb]) (by rw [q4]; exact q3) ?_
     intro b2 l2 o2 h2 _ hmb
     exact absurd hmb ((hM.early c hE).free b2 l2 h2)
    ·rw [q1]; exact wf_push hM.step.wf obj q2
    ·rw [q1]; exact Nat.le_trans hM.step.nle (Nat.le_succ _)
    ·intro b l' hb
     rcases hother b l' hb with h | ⟨rfl, rfl⟩
     ·exact hM.step.new b l' h
     ·exact .inr ⟨hM.step.nle, .inl (hM.early c hE).far⟩
    ·intro b k hb
     obtain ⟨k', hk', e⟩ := hM.step.ro b k hb
     exact ⟨k', hget _ _ hk', e⟩
    ·intro b es hb
     obtain ⟨es', he'⟩ := hM.step.rom b es hb
     exact ⟨es', hget _ _ he'⟩
   ·intro t ht
    by_cases hd : o.dst = some t
    ·rw [curAt_last hSc (by rw [ho]; exact hd) n hc (fun k h1 h2 hSk hdk => ?_), q6 o t ho hd]
     ·exact q5 _ hin
     ·obtain ⟨p, hp, hpd⟩ := Option.bind_eq_some_iff.1 hdk
      exact hM.unnamed c hE o t ho hd k p h1 hp hSk (by simp [namesOf, hpd])
    ·refine (hM.env t fun k hk q hq => ?_).mono hle
     by_cases hkc : k = c
     ·subst hkc; rw [ho] at hq; simp only [Option.some.injEq] at hq; subst hq; exact hd
     ·obtain ⟨e1, e2, e3⟩ := hk
      exact ht k ⟨e1, by omega, e3⟩ q hq
   ·intro k hk
    refine (hM.early k (up k hk)).next hle rfl (fun b l' hb => ?_) (fun _ _ _ _ => rfl)
    rcases hother b l' hb with h | ⟨rfl, rfl⟩
    ·exact (hM.early k (up k hk)).free b l' h
    ·exact hM.dis c k hE (up k hk) (by have := hk.2.1; omega)
theorem Mid.top (tr : Trace P call ops (Region.before ops) 0 n env heap val wn) (hn : n = ops.size) {N : Nat} {S : Nat → Bool} {ρ0 : Ren} {w0 w : World} {a : Act} {el : Nat → Loc} : ∀ (m c : Nat) (ρ : Ren), n ≤ c + m → Mid P ops n N env heap val wn S ρ0 w0 a w ρ c el →
  ∃ ρ' c', Mid P ops n N env heap val wn S ρ0 w0 a w ρ' c' el ∧ (c' < n → ∃ o, ops[c']? = some o ∧ inChain P o = true ∧ S c' = false)
 | 0, c, ρ, h, hM => ⟨ρ, c, hM, fun hc => by omega⟩
 | m + 1, c, ρ, h, hM => by
  by_cases hc : c < n
  ·by_cases hS : ∀ o, ops[c]? = some o → inChain P o = true → S c = true
   ·obtain ⟨ρ', hM'⟩ := hM.raise tr hn hc hS
    exact Mid.top tr hn m (c + 1) ρ' (by omega) hM'
   ·refine ⟨ρ, c, hM, fun _ => ?_⟩
    obtain ⟨o, ho⟩ : ∃ o, ops[c]? = some o := ⟨ops[c]'(by omega), Array.getElem?_eq_getElem (by omega)⟩
    refine ⟨o, ho, ?_, ?_⟩
    ·cases hch : inChain P o with
     | true => rfl
     | false => exact absurd (fun o' ho' hc' => by rw [ho] at ho'; simp only [Option.some.injEq] at ho'; subst ho'; rw [hch] at hc'; cases hc') hS
    ·cases hSc : S c with
     | false => rfl
     | true => exact absurd (fun _ _ _ => hSc) hS
  ·exact ⟨ρ, c, hM, fun h => absurd h hc⟩
theorem mid_step (hok : drawOK P ops = true) (hcall : SoundC P call) {N : Nat} (hdst : ∀ (k : Nat) (o : Oper), ops[k]? = some o → ∀ d, o.dst = some d → d < N) (tr : Trace P call ops (Region.before ops) 0 n env heap val wn) (hn : n = ops.size)
  {S S' : Nat → Bool} {ρ0 ρ1 : Ren} {w0 w : World} {a : Act} {c1 : Nat} {el : Nat → Loc} (hM1 : Mid P ops n N env heap val wn S ρ0 w0 a w ρ1 c1 el) (hG : Gd ρ0 (heap 0).get w0) {i : Nat} {o : Oper} (ho : ops[i]? = some o) (hi : S i = false)
  (hready : ∀ e ∈ o.after, Region.binds .any e = true → S e.on = true) (hS' : ∀ k, S' k = if k = i then true else S k) (Q : Exit → Act → World → Prop) (K : Act → World → Prop)
  (hK : ∀ a' w' ρ' c' el', Mid P ops n N env heap val wn S' ρ0 w0 a' w' ρ' c' el' → K a' w') : wpOp P ops Q i K a w := by
 obtain ⟨ρ, c, hM, htop⟩ := hM1.top tr hn n c1 ρ1 (by omega)
 have hin : i < n := by rw [hn]; exact (Array.getElem?_eq_some_iff.1 ho).1
 obtain ⟨hwant, henv, hrun, hskip⟩ := tr.step i o (Nat.zero_le _) hin ho
 
 have hdown : Down ops (fun k => S k = true ∨ k = i) := by
  intro j p hj hp e he hb
  rcases hj with hj | rfl
  ·exact .inl (hM.down j p hj hp e he hb)
  ·rw [ho] at hp; simp only [Option.some.injEq] at hp; subst hp
   exact .inl (hready e he hb)
 have hdown' : Down ops (fun k => S' k = true) := by
  intro j p hj hp e he hb
  simp only [hS'] at hj ⊢
  by_cases hji : j = i
  ·subst hji
   rw [ho] at hp; simp only [Option.some.injEq] at hp; subst hp
   have := hready e he hb
   split
   ·rfl
   ·exact this
  ·rw [if_neg hji] at hj
   have := hM.down j p hj hp e he hb
   split
   ·rfl
   ·exact this
 
 have named : ∀ t, t ∈ namesOf ops o → ∀ k, IsEarly P ops wn n S c k → ∀ q, ops[k]? = some q → q.dst ≠ some t := by
  intro t ht k hk q hq hd
  obtain ⟨e1, e2, e3, e4, q', hq', e5⟩ := hk
  rw [hq] at hq'; simp only [Option.some.injEq] at hq'; subst hq'
  have hki : k ≠ i := fun e => by subst e; rw [hi] at e1; cases e1
  by_cases hlt : i < k
  ·have hb := drawOK_spec hok hq ho hlt (.inr (.inr ⟨t, hd, ht⟩))
   have : S i = true := before_down hM.down hb e1
   rw [hi] at this; cases this
  ·have he : isEff P q = false := by
    cases he : isEff P q with
    | false => rfl
    | true => have := hM.chainE k q e3 hq he e1; omega
   obtain ⟨oc, hoc, hcc, hcs⟩ := htop (by omega)
   by_cases hck : c = k
   ·subst hck; rw [e1] at hcs; cases hcs
   ·have hb := drawOK_ahead hok hq he e5 ho (by omega) hd ht hoc (by omega) hcc
    rcases before_down hdown hb (.inr rfl) with h | h
    ·rw [hcs] at h; cases h
    ·omega
 
 have hsee : ∀ t, t ∈ namesOf ops o → RelV ρ ((env i).get t) (a.tmps.getD t undef) := by
  intro t ht
  have h1 := hM.env t (named t ht)
  rw [cur_agree hok hM.down ho hi hready ht n, show min n i = i by omega, ← env_cur tr hn i (by omega) t] at h1
  exact h1
 have hops : ∀ x ∈ o.op.operands, RelV ρ (ev (env i) x) (a.eval x) := by
  intro x hx
  cases x with
  | tmp t => exact hsee t (by simp only [namesOf, List.mem_append, List.mem_filterMap]; exact .inl (.inr ⟨.tmp t, by simpa using hx, rfl⟩))
  | const v =>
   show RelV ρ ((ofVal 3 v).getD .undef) v
   cases hv : ofVal 3 v with
   | none => exact .undef v
   | some x => exact ofVal_rel ρ 3 v x hv
  | global g => exact .undef _
  | func f => exact .func _ [] [] #[] #[] rfl rfl (by simp) (by simp)
 have hwanted : Region.wanted o (yielded ops a.tmps) = wn i := wanted_rel (ρ := ρ) hwant (fun j want t hg hd => hsee t (by
  simp only [namesOf, List.mem_append, hg, hd]
  exact .inr (by simp)))
 
 have hput : ∀ mv k, IsEarly P ops wn n S c k → ∀ q t, ops[k]? = some q → q.dst = some t → (a.put o.dst mv).tmps.getD t undef = a.tmps.getD t undef := by
  intro mv k hk q t hq hd
  cases hod : o.dst with
  | none => rfl
  | some d =>
   have hne : d ≠ t := fun e => named d (by simp [namesOf, hod]) k hk q hq (by rw [e]; exact hd)
   simp [Act.put, Array.getElem?_setIfInBounds_ne hne]
 have hsize : ∀ mv, (a.put o.dst mv).tmps.size = N ∧ (a.put o.dst mv).defers = [] := by
  intro mv
  constructor
  ·cases o.dst <;> simp [Act.put, hM.size]
  ·cases o.dst <;> simp [Act.put, hM.defers]
 have hbeyond' : ∀ k, n ≤ k → S' k = false := fun k hk => by rw [hS', if_neg (by omega)]; exact hM.beyond k hk
 have hSS : ∀ k, S k = true → S' k = true := fun k hk => by
  rw [hS']
  split
  ·rfl
  ·exact hk
 have back : ∀ c' k, c ≤ c' → IsEarly P ops wn n S' c' k → k = i ∨ IsEarly P ops wn n S c k := by
  intro c' k hcc ⟨e1, e2, e3⟩
  by_cases hki : k = i
  ·exact .inl hki
  ·rw [hS', if_neg hki] at e1
   exact .inr ⟨e1, by omega, e3⟩
 have unnamed' : ∀ c', c ≤ c' → ∀ k, IsEarly P ops wn n S' c' k → ∀ q t, ops[k]? = some q → q.dst = some t → ∀ j p, k < j → ops[j]? = some p → S' j = true → t ∉ namesOf ops p := by
  intro c' hcc k hk q t hq hd j p hkj hp hSj hm
  by_cases hji : j = i
  ·subst hji
   rw [ho] at hp; simp only [Option.some.injEq] at hp; subst hp
   rcases back c' k hcc hk with h | h
   ·omega
   ·exact named t hm k h q hq hd
  ·rw [hS', if_neg hji] at hSj
   rcases back c' k hcc hk with h | h
   ·subst h
    rw [ho] at hq; simp only [Option.some.injEq] at hq; subst hq
    have hb := drawOK_spec hok hp ho hkj (.inr (.inl ⟨t, hd, hm⟩))
    have : S k = true := before_down hM.down hb hSj
    rw [hi] at this; cases this
   ·exact hM.unnamed k h q t hq hd j p hkj hp hSj hm
 
 have hframe : ∀ (ρ' : Ren) (mv : Value) (c' : Nat), Ren.le ρ ρ' → (∀ k, IsEarly P ops wn n S c k → IsEarly P ops wn n S' c' k) → (RelV ρ' (val i) mv ∨ IsEarly P ops wn n S' c' i) →
   ∀ t, (∀ k, IsEarly P ops wn n S' c' k → ∀ q, ops[k]? = some q → q.dst ≠ some t) → RelV ρ' (curAt ops val S' (env 0) n t) ((a.put o.dst mv).tmps.getD t undef) := by
  intro ρ' mv c' hle hsub hv t ht
  have hold := fun (k : Nat) (hk : IsEarly P ops wn n S c k) => ht k (hsub k hk)
  rw [cur_set hok hM.down ho hi hS' t n]
  cases hd : o.dst with
  | none =>
   rw [if_neg (by simp)]
   exact (hM.env t hold).mono hle
  | some d =>
   have hlt : d < a.tmps.size := by rw [hM.size]; exact hdst i o ho d hd
   by_cases hdt : d = t
   ·subst hdt
    rcases hv with hv | hv
    ·rw [if_pos ⟨hin, rfl⟩]
     simp [Act.put, hlt, hv]
    ·exact absurd hd (ht i hv o ho)
   ·rw [if_neg (fun h => hdt (by simpa using h.2))]
    have : (a.put (some d) mv).tmps.getD t undef = a.tmps.getD t undef := by
     simp [Act.put, Array.getElem?_setIfInBounds_ne hdt]
    rw [this]
    exact (hM.env t hold).mono hle
 have stay : ∀ k, IsEarly P ops wn n S c k → IsEarly P ops wn n S' c k := fun k ⟨e1, e2⟩ => ⟨hSS k e1, e2⟩
 
 have aside : ∀ (mv : Value), isEff P o = false → ¬ IsEarly P ops wn n S' c i → RelV ρ (val i) mv → Mid P ops n N env heap val wn S' ρ0 w0 (a.put o.dst mv) w ρ c el := by
  intro mv hne hni hv
  have back' : ∀ k, IsEarly P ops wn n S' c k → IsEarly P ops wn n S c k := fun k hk => by
   rcases back c k (Nat.le_refl _) hk with h | h
   ·subst h; exact absurd hk hni
   ·exact h
  refine ⟨hdown', hM.cn, ?_, fun k q hk hq hc hlt => hSS k (hM.chain k q hk hq hc hlt), hM.step, hframe ρ mv c (Ren.le.refl ρ) stay (.inl hv), fun k hk => ?_, fun j k hj hk => hM.dis j k (back' j hj) (back' k hk), unnamed' c (Nat.le_refl _), (hsize mv).1, (hsize mv).2, hbeyond'⟩
  ·intro k q hk hq he hs
   rw [hS'] at hs
   by_cases hki : k = i
   ·subst hki; rw [ho] at hq; simp only [Option.some.injEq] at hq; subst hq; rw [hne] at he; cases he
   ·rw [if_neg hki] at hs; exact hM.chainE k q hk hq he hs
  ·exact (hM.early k (back' k hk)).next (Ren.le.refl ρ) rfl (hM.early k (back' k hk)).free (fun q t hq hd => hput mv k (back' k hk) q t hq hd)
 
 have turn : isEff P o = true → c = i ∧ ∀ k p, k < i → ops[k]? = some p → inChain P p = true → S k = true := by
  intro he
  have hc : inChain P o = true := by simp [inChain, eff_of he]
  have hahead : ∀ k p, k < i → ops[k]? = some p → inChain P p = true → S k = true := by
   intro k p hk hp hpc
   rcases before_down hdown (drawOK_spec hok ho hp hk (.inl ⟨he, hpc⟩)) (.inr rfl) with h | h
   ·exact h
   ·omega
  refine ⟨?_, hahead⟩
  rcases Nat.lt_trichotomy c i with h | h | h
  ·obtain ⟨oc, hoc, hcc, hcs⟩ := htop (by omega)
   rw [hahead c oc h hoc hcc] at hcs; cases hcs
  ·exact h
  ·have := hM.chain i o hin ho hc h
   rw [hi] at this; cases this
 have after : ∀ (mv : Value) (ρ' : Ren) (w' : World), isEff P o = true → Step ρ (heap i).get (heap i).next w ρ' (heap (i + 1)).get (heap (i + 1)).next w' → RelV ρ' (val i) mv → Mid P ops n N env heap val wn S' ρ0 w0 (a.put o.dst mv) w' ρ' (i + 1) el := by
  intro mv ρ' w' he hs hv
  obtain ⟨rfl, hahead⟩ := turn he
  have back' : ∀ k, IsEarly P ops wn n S' (c + 1) k → IsEarly P ops wn n S c k := fun k hk => by
   rcases back (c + 1) k (Nat.le_succ _) hk with h | h
   ·have := hk.2.1; omega
   ·exact h
  refine ⟨hdown', by omega, ?_, ?_, hM.step.trans hs, hframe ρ' mv (c + 1) hs.le (fun k hk => ?_) (.inl hv), fun k hk => ?_, fun j k hj hk => hM.dis j k (back' j hj) (back' k hk), unnamed' (c + 1) (Nat.le_succ _), (hsize mv).1, (hsize mv).2, hbeyond'⟩
  ·intro k q hk hq he' hs'
   rw [hS'] at hs'
   by_cases hki : k = c
   ·omega
   ·rw [if_neg hki] at hs'
    have := hM.chainE k q hk hq he' hs'
    omega
  ·intro k q hk hq hqc hlt
   rw [hS']
   by_cases hki : k = c
   ·rw [if_pos hki]
   ·rw [if_neg hki]; exact hahead k q (by omega) hq hqc
  ·obtain ⟨e1, e2, e3⟩ := hk
   have : k ≠ c := fun e => by subst e; rw [hi] at e1; cases e1
   exact ⟨hSS k e1, by omega, e3⟩
  ·have hE := hM.early k (back' k hk)
   obtain ⟨obj, m, mv', _, _, _, q4, _⟩ := hE.ex
   have hsz : (el k).mb < w.heap.size := by
    rcases Nat.lt_or_ge (el k).mb w.heap.size with h | h
    ·exact h
    ·rw [Array.getElem?_eq_none h] at q4; cases q4
   refine hE.next hs.le (hs.old _ hsz fun b l hb hl => absurd hl (hE.free b l hb)) (fun b l' hb hl => ?_) (fun q t hq hd => hput mv k (back' k hk) q t hq hd)
   rcases hs.new b l' hb with h | ⟨_, h | ⟨b0, l0, k0, h1, h2, _⟩⟩
   ·exact hE.free b l' h hl
   ·omega
   ·exact hE.free b0 l0 h1 (h2.trans hl)
 unfold wpOp
 rw [ho]
 simp only [hwanted]
 cases hw : wn i with
 | false =>
  simp only [Bool.false_eq_true, if_false]
  obtain ⟨hv, hh⟩ := hskip hw
  cases he : isEff P o with
  | true =>
   refine hK _ w ρ (i + 1) el (after undef ρ w he ?_ (by rw [hv]; exact skipped_rel ρ))
   obtain ⟨rfl, _⟩ := turn he
   rw [hh]; exact Step.refl hM.step.rel hM.step.wf
  | false => exact hK _ w ρ c el (aside undef he (fun h => by have := h.2.2.2.1; rw [hw] at this; cases this) (by rw [hv]; exact skipped_rel ρ))
 | true =>
  simp only [if_true]
  left
  have hv := hrun hw
  have quiet : ∀ (call' : Caller) (h hq : VHeap), vop P call' o (env i) h = some (val i, hq) → kindOf P o = .pure ∨ kindOf P o = .read →
    (kindOf P o = .read → ∀ b ob, ρ b ≠ none → h.get b = some ob → (heap c).get b = some ob) → o.wp P a w K Q := by
   intro call' h hq hop hk hgh
   obtain ⟨_, mv, hr, hrel⟩ := quiet_sound w hk hop a hops hM.step.rel hgh
   unfold Oper.wp
   rw [hr, Oper.upon_value]
   refine hK _ w ρ c el (aside mv (by unfold isEff; rcases hk with hk | hk <;> simp [hk]) (fun h => ?_) hrel)
   obtain ⟨o', ho', hc'⟩ := h.2.2.2.2
   rw [ho] at ho'; simp only [Option.some.injEq] at ho'; subst ho'
   unfold inChain at hc'
   rcases hk with hk | hk <;> simp [hk] at hc'
  cases hk : kindOf P o with
  | pure => exact quiet call _ _ hv (.inl hk) (fun h => by rw [hk] at h; cases h)
  | eff =>
   have he : isEff P o = true := by simp [isEff, hk]
   obtain ⟨hci, _⟩ := turn he
   refine op_wp hcall hv hops (by rw [← hci]; exact hM.step.rel) (by rw [← hci]; exact hM.step.wf) (by rw [← hci]; exact hM.step.gd hG) K Q fun mv ρ' w' hstep hrel => ?_
   exact hK _ w' ρ' (i + 1) el (after mv ρ' w' he hstep hrel)
  | alloc =>
   have hne : isEff P o = false := by simp [isEff, hk]
   have hch : inChain P o = true := by simp [inChain, hk]
   have hci : c ≤ i := by
    rcases Nat.lt_or_ge i c with h | h
    ·have := hM.chain i o hin ho hch h
     rw [hi] at this; cases this
    ·exact h
   obtain ⟨obj, m, w', mv, l, q1, hrun', hN, hl, hro, hfam, hrel⟩ := alloc_sound w hk hv a hops
   unfold Oper.wp
   rw [hrun', Oper.upon_value]
   have hEi : IsEarly P ops wn n S' c i := ⟨by rw [hS', if_pos rfl], hci, hin, hw, o, ho, hch⟩
   have hlt : ∀ k, IsEarly P ops wn n S c k → (el k).mb < w.heap.size := by
    intro k hk
    obtain ⟨obj, m, mv', _, _, _, q4, _⟩ := (hM.early k hk).ex
    rcases Nat.lt_or_ge (el k).mb w.heap.size with h | h
    ·exact h
    ·rw [Array.getElem?_eq_none h] at q4; cases q4
   have hel : ∀ k, k ≠ i → (if k = i then l else el k) = el k := fun k hk => if_neg hk
   have nei : ∀ k, IsEarly P ops wn n S c k → k ≠ i := fun k hk e => by have h1 := hk.1; rw [e, hi] at h1; cases h1
   refine hK _ w' ρ c (fun k => if k = i then l else el k) ⟨hdown', hM.cn, ?_, fun k q hk hq hc hlt => hSS k (hM.chain k q hk hq hc hlt), ?_, hframe ρ mv c (Ren.le.refl ρ) stay (.inr hEi), fun k hk => ?_, fun j k hj hk hjk => ?_, unnamed' c (Nat.le_refl _), (hsize mv).1, (hsize mv).2, hbeyond'⟩
   ·intro k q hk hq he hs
    rw [hS'] at hs
    by_cases hki : k = i
    ·subst hki; rw [ho] at hq; simp only [Option.some.injEq] at hq; subst hq; rw [hne] at he; cases he
    ·rw [if_neg hki] at hs; exact hM.chainE k q hk hq he hs
   ·exact hM.step.trans ⟨hM.step.rel, hM.step.rel.world hN.old, hM.step.wf, Ren.le.refl ρ, Nat.le_refl _, hN.os, hN.tape, hN.output, by rw [hN.size]; omega, fun B hB _ => hN.old B hB, fun _ _ h => .inl h, fun _ k h => ⟨k, h, rfl⟩, fun _ es h => ⟨es, h⟩⟩
   ·rcases back c k (Nat.le_refl _) hk with h | h
    ·subst h
     simp only [if_true]
     refine ⟨⟨obj, m, mv, q1, fun q hq => (hfam q hq).1, hro, by rw [hl]; exact hN.at_, hrel, fun q t hq hd => ?_⟩, by rw [hl]; exact hM.step.size, fun b l' hb => ?_⟩
     ·rw [ho] at hq; simp only [Option.some.injEq] at hq; subst hq
      have hlt' : t < a.tmps.size := by rw [hM.size]; exact hdst k o ho t hd
      rw [hd]
      simp [Act.put, hlt']
     ·have := hM.step.rel.lt hb
      omega
    ·simp only [hel k (nei k h)]
     exact (hM.early k h).next (Ren.le.refl ρ) (hN.old _ (hlt k h)) (hM.early k h).free (fun q t hq hd => hput mv k h q t hq hd)
   ·rcases back c j (Nat.le_refl _) hj with h1 | h1 <;> rcases back c k (Nat.le_refl _) hk with h2 | h2
    ·omega
    ·subst h1
     simp only [if_true, hel k (nei k h2)]
     have := hlt k h2
     omega
    ·subst h2
     simp only [if_true, hel j (nei j h1)]
     have := hlt j h1
     omega
    ·simp only [hel j (nei j h1), hel k (nei k h2)]
     exact hM.dis j k h1 h2 hjk
  | read =>
   
   have low : ∀ b, ρ b ≠ none → ∃ ob, (heap c).get b = some ob := by
    intro b hb
    cases hρ : ρ b with
    | none => exact absurd hρ hb
    | some l => obtain ⟨ob, hob, _⟩ := hM.step.rel.obj b l hρ; exact ⟨ob, hob⟩
   have down_from : ∀ j, (∀ b ob, (heap c).get b = some ob → (heap j).get b = some ob) → ∀ b ob, ρ b ≠ none → (heap j).get b = some ob → (heap c).get b = some ob := by
    intro j hg b ob hb hj
    obtain ⟨o2, ho2⟩ := low b hb
    have := hg b o2 ho2
    rw [hj] at this
    simp only [Option.some.injEq] at this
    rw [this]; exact ho2
   by_cases hci : c ≤ i
   ·by_cases hex : ∃ k p, c ≤ k ∧ k < i ∧ ops[k]? = some p ∧ wn k = true ∧ kindOf P p = .eff
    · 
     obtain ⟨k, hk1, hk2, hkmin⟩ : ∃ k, (∃ p, c ≤ k ∧ k < i ∧ ops[k]? = some p ∧ wn k = true ∧ kindOf P p = .eff) ∧ True ∧ ∀ j, j < k → ¬ ∃ p, c ≤ j ∧ j < i ∧ ops[j]? = some p ∧ wn j = true ∧ kindOf P p = .eff := by
      obtain ⟨k, hk⟩ := hex
      induction k using Nat.strongRecOn with
      | _ k ih =>
       by_cases hless : ∃ j, j < k ∧ ∃ p, c ≤ j ∧ j < i ∧ ops[j]? = some p ∧ wn j = true ∧ kindOf P p = .eff
       ·obtain ⟨j, hjk, hj⟩ := hless
        exact ih j hjk hj
       ·exact ⟨k, hk, trivial, fun j hj h => hless ⟨j, hj, h⟩⟩
     obtain ⟨p, hck, hki, hp, hwk, hpk⟩ := hk1
     have hnot : ((Region.before ops).getD i 0).testBit k = false := by
      cases hb : ((Region.before ops).getD i 0).testBit k with
      | false => rfl
      | true =>
       rcases before_down hdown hb (.inr rfl) with h | h
       ·have := hM.chainE k p (by omega) hp (by simp [isEff, hpk]) h
        omega
       ·omega
     rcases tr.early k i p o (Nat.zero_le _) hki hin hp ho hwk hw hk hpk with h | h
     ·rw [hnot] at h; cases h
     ·obtain ⟨hq, hq1⟩ := readAt_spec h
      refine quiet _ _ _ hq1 (.inr hk) (fun _ => down_from k (heap_grows tr hn c k hck (by omega) (fun j q h1 h2 hq2 hw2 he => hkmin j h2 ⟨q, h1, by omega, hq2, hw2, he⟩)))
    ·exact quiet call _ _ hv (.inr hk) (fun _ => down_from i (heap_grows tr hn c i hci (by omega) (fun j q h1 h2 hq2 hw2 he => hex ⟨j, q, h1, h2, hq2, hw2, he⟩)))
   ·have hic : i < c := by omega
    by_cases hex : ∃ k p, i < k ∧ k < c ∧ ops[k]? = some p ∧ wn k = true ∧ kindOf P p = .eff
    · 
     obtain ⟨k, hk1, hkmax⟩ : ∃ k, (∃ p, i < k ∧ k < c ∧ ops[k]? = some p ∧ wn k = true ∧ kindOf P p = .eff) ∧ ∀ j, k < j → ¬ ∃ p, i < j ∧ j < c ∧ ops[j]? = some p ∧ wn j = true ∧ kindOf P p = .eff := by
      obtain ⟨k, hk⟩ := hex
      have key : ∀ m k, c - k = m → (∃ p, i < k ∧ k < c ∧ ops[k]? = some p ∧ wn k = true ∧ kindOf P p = .eff) →
        ∃ k, (∃ p, i < k ∧ k < c ∧ ops[k]? = some p ∧ wn k = true ∧ kindOf P p = .eff) ∧ ∀ j, k < j → ¬ ∃ p, i < j ∧ j < c ∧ ops[j]? = some p ∧ wn j = true ∧ kindOf P p = .eff := by
       intro m
       induction m using Nat.strongRecOn with
       | _ m ih =>
        intro k hm hk
        by_cases hmore : ∃ j, k < j ∧ ∃ p, i < j ∧ j < c ∧ ops[j]? = some p ∧ wn j = true ∧ kindOf P p = .eff
        ·obtain ⟨j, hkj, p, hj⟩ := hmore
         exact ih (c - j) (by omega) j rfl ⟨p, hj⟩
        ·exact ⟨k, hk, fun j hj h => hmore ⟨j, hj, h⟩⟩
      exact key (c - k) k rfl hk
     obtain ⟨p, hik, hkc, hp, hwk, hpk⟩ := hk1
     have hcn := hM.cn
     have hSk : S k = true := hM.chain k p (by omega) hp (by simp [inChain, hpk]) hkc
     have hnot : ((Region.before ops).getD k 0).testBit i = false := by
      cases hb : ((Region.before ops).getD k 0).testBit i with
      | false => rfl
      | true =>
       have : S i = true := before_down hM.down hb hSk
       rw [hi] at this; cases this
     rcases tr.late i k o p (Nat.zero_le _) hik (by omega) ho hp hw hwk hpk hk with h | h
     ·rw [hnot] at h; cases h
     ·obtain ⟨hq, hq1⟩ := readAt_spec h
      refine quiet _ _ _ hq1 (.inr hk) (fun _ b ob _ hob => heap_grows tr hn (k + 1) c (by omega) hM.cn (fun j q h1 h2 hq2 hw2 he => hkmax j (by omega) ⟨q, by omega, h2, hq2, hw2, he⟩) b ob hob)
    ·have hh : heap (i + 1) = heap i := quiet_heap (.inr hk) hv
     exact quiet call _ _ hv (.inr hk) (fun _ b ob _ hob => heap_grows tr hn (i + 1) c (by omega) hM.cn (fun j q h1 h2 hq2 hw2 he => hex ⟨j, q, by omega, h2, hq2, hw2, he⟩) b ob (by rw [hh]; exact hob))
theorem draw_any (hok : drawOK P ops = true) (hcall : SoundC P call) {N : Nat} (hdst : ∀ (k : Nat) (o : Oper), ops[k]? = some o → ∀ d, o.dst = some d → d < N) (tr : Trace P call ops (Region.before ops) 0 n env heap val wn) (hn : n = ops.size)
  {ρ0 : Ren} {w0 : World} (hG : Gd ρ0 (heap 0).get w0) (Q : Exit → Act → World → Prop)
  (hQ : ∀ ρ' a' w', Step ρ0 (heap 0).get (heap 0).next w0 ρ' (heap n).get (heap n).next w' → Frm ρ' N (env n) a' → Q .normal a' w') :
  ∀ (fuel : Nat) (listed : Array Bool) (a : Act) (w : World) (ρ : Ren) (c : Nat) (el : Nat → Loc), listed.size = n → unrun (fun k => listed.getD k false) n ≤ fuel → Mid P ops n N env heap val wn (fun k => listed.getD k false) ρ0 w0 a w ρ c el →
   wpAny P .any ops Q fuel listed a w := by
 
 have finish : ∀ (listed : Array Bool) (a : Act) (w : World) (ρ : Ren) (c : Nat) (el : Nat → Loc), (∀ k, k < n → listed.getD k false = true) → Mid P ops n N env heap val wn (fun k => listed.getD k false) ρ0 w0 a w ρ c el → Q .normal a w := by
  intro listed a w ρ1 c1 el hall hM1
  obtain ⟨ρ, c, hM, htop⟩ := hM1.top tr hn n c1 ρ1 (by omega)
  have hcn : c = n := by
   rcases Nat.lt_or_ge c n with h | h
   ·obtain ⟨o, _, _, h3⟩ := htop h
    simp only [hall c h] at h3
    cases h3
   ·have := hM.cn; omega
  have hst := hM.step
  rw [hcn] at hst
  refine hQ ρ a w hst ⟨⟨fun t => ?_⟩, hM.size, hM.defers⟩
  have h1 := hM.env t (fun k hk => by obtain ⟨_, e2, e3, _⟩ := hk; omega)
  have h2 : ∀ k, k ≤ n → curAt ops val (fun k => listed.getD k false) (env 0) k t = curAt ops val (fun _ => true) (env 0) k t := by
   intro k
   induction k with
   | zero => intro _; rfl
   | succ k ih => intro hk; simp only [curAt, hall k (by omega), ih (by omega)]
  rw [h2 n (Nat.le_refl _), ← env_cur tr hn n (Nat.le_refl _) t] at h1
  exact h1
 have none_ready : ∀ (listed : Array Bool), listed.size = n → Region.ready .any ops listed = [] → ∀ k, k < n → listed.getD k false = true := by
  intro listed hsz hr k
  induction k using Nat.strongRecOn with
  | _ k ih =>
   intro hk
   cases hl : listed.getD k false with
   | true => rfl
   | false =>
    exfalso
    obtain ⟨o, ho⟩ : ∃ o, ops[k]? = some o := ⟨ops[k]'(by omega), Array.getElem?_eq_getElem (by omega)⟩
    have : k ∈ Region.ready .any ops listed := mem_ready.2 ⟨getD_in (by omega) hl, o, ho, fun e he hb => by
     have hlt := drawOK_edge hok ho he hb
     exact ih e.on hlt (by omega)⟩
    rw [hr] at this
    cases this
 intro fuel
 induction fuel with
 | zero =>
  intro listed a w ρ c el hsz hu hM
  have hall := unrun_zero n (by omega : unrun (fun k => listed.getD k false) n = 0)
  refine ⟨?_, finish listed a w ρ c el hall hM⟩
  cases hr : Region.ready .any ops listed with
  | nil => rfl
  | cons i rest =>
   exfalso
   obtain ⟨h1, o, ho, _⟩ := mem_ready.1 (show i ∈ Region.ready .any ops listed by rw [hr]; simp)
   have hi : i < n := by rw [hn]; exact (Array.getElem?_eq_some_iff.1 ho).1
   have := hall i hi
   simp [Array.getD_eq_getD_getElem?, Array.getElem?_eq_getElem (show i < listed.size by omega)] at h1 this
   rw [h1] at this; cases this
 | succ fuel ih =>
  intro listed a w ρ c el hsz hu hM
  refine ⟨fun hr => finish listed a w ρ c el (none_ready listed hsz hr) hM, fun i hi => ?_⟩
  obtain ⟨h1, o, ho, hall⟩ := mem_ready.1 hi
  have hin : i < n := by rw [hn]; exact (Array.getElem?_eq_some_iff.1 ho).1
  have hl : listed.getD i false = false := getD_both h1
  have hS' : ∀ k, (listed.setIfInBounds i true).getD k false = if k = i then true else listed.getD k false := by
   intro k
   by_cases hki : k = i
   ·subst hki; simp [Array.getD_eq_getD_getElem?, show k < listed.size by omega]
   ·rw [if_neg hki]; exact getD_set_ne false (Ne.symm hki)
  refine mid_step hok hcall hdst tr hn hM hG ho hl (fun e he hb => hall e he hb) hS' Q _ fun a' w' ρ' c' el' hM' => ?_
  refine ih _ a' w' ρ' c' el' (by simpa using hsz) ?_ hM'
  have := unrun_set (S := fun k => listed.getD k false) (S' := fun k => (listed.setIfInBounds i true).getD k false) hl hS' n
  rw [if_pos hin] at this
  omega
end
end Go.Proofs.Ythlbahcggmbfaaa.V

namespace Go.Proofs.Ythlbahcggmbfaaa.V
open Go.RowKit
section
variable {P : Program}
def codeDst (N : Nat) : Code → Bool
 | .region _ ops _ => ops.toList.all fun o => match o.dst with | some d => Nat.blt d N | none => true
 | .seq a b | .cond _ a b => codeDst N a && codeDst N b
 | .block _ c | .loop c | .scope c => codeDst N c
 | .rangeFunc _ _ a c => codeDst N a && codeDst N c
 | _ => true
def progDst (P : Program) : Bool := P.funcs.toList.all fun fn => match fn.body with | some c => codeDst fn.ntmps c | none => true
def VExit.out : VExit → Exit
 | .normal => .normal
 | .exit id => .exit id
 | .ret => .ret
theorem wp_loop_n {c : Code} {Q : Exit → Act → World → Prop} (J : Nat → Act → World → Prop)
  (round : ∀ n a w, J n a w → c.wp P (Exit.then (fun a' w' => ∃ m, m < n ∧ J m a' w') Q) a w) (n : Nat) (a : Act) (w : World) (h : J n a w) : (Code.loop c).wp P Q a w := by
 intro b k cs
 have key : ∀ n a w, J n a w → ∃ e a' w', Q e a' w' ∧ Arrives P (lone (b.at a (.code c :: .inLoop c :: k)) cs w) b k cs e a' w' := by
  intro n
  induction n using Nat.strongRecOn with
  | _ n ih =>
   intro a w hJ
   obtain ⟨e, a₁, w₁, hq, harr⟩ := round n a w hJ b (.inLoop c :: k) cs
   cases e with
   | normal =>
    obtain ⟨m, hlt, hJ₁⟩ := hq
    obtain ⟨e₂, a₂, w₂, hq₂, harr₂⟩ := ih m hlt a₁ w₁ hJ₁
    exact ⟨e₂, a₂, w₂, hq₂, .of_steps (Steps.trans harr (.one step_inLoop)) harr₂⟩
   | exit id => exact ⟨_, a₁, w₁, hq, .pass (x := .inLoop c) rfl (fun _ _ => .inl (by simp)) harr⟩
   | goto l => exact ⟨_, a₁, w₁, hq, .pass (x := .inLoop c) rfl (fun _ _ => .inl (by simp)) harr⟩
   | ret => exact ⟨_, a₁, w₁, hq, .pass (x := .inLoop c) rfl (fun _ _ => .inl (by simp)) harr⟩
   | panic ch => exact ⟨_, a₁, w₁, hq, .pass (x := .inLoop c) rfl (fun _ _ => .inl (by simp)) harr⟩
   | outgrown => exact ⟨_, a₁, w₁, hq, .pass (x := .inLoop c) rfl (fun _ _ => .inl (by simp)) harr⟩
 obtain ⟨e, a', w', hq, harr⟩ := key n a w h
 exact ⟨e, a', w', hq, .of_steps (.one step_loop) harr⟩
theorem region_wp (hmix : P.follows .mixedOrders = true) {call : Caller} (hcall : SoundC P call) {ops : Array Oper} {draw : Bool} {id N : Nat} {e e' : Env} {h h' : VHeap} (hop : vregion P call ops draw e h = some (e', h'))
  (hdst : ∀ (k : Nat) (o : Oper), ops[k]? = some o → ∀ d, o.dst = some d → d < N) {ρ : Ren} {a : Act} {w : World} (hF : Frm ρ N e a) (hR : Rel ρ h.get w) (hw : WF h.get h.next) (hG : Gd ρ h.get w) (Q : Exit → Act → World → Prop)
  (hQ : ∀ ρ' a' w', Step ρ h.get h.next w ρ' h'.get h'.next w' → Frm ρ' N e' a' → Q .normal a' w') : (Code.region id ops draw).wp P Q a w := by
 unfold vregion at hop
 cases draw with
 | false =>
  simp only at hop
  refine wp_region_list (vops_wp hcall Q _ e e' h h' ρ a w hop (fun o ho d hd => ?_) hF hR hw hG hQ)
  obtain ⟨k, hk⟩ := List.getElem?_of_mem ho
  exact hdst k o (by simpa using hk) d hd
 | true =>
  simp only at hop
  cases hok : drawOK P ops with
  | false => rw [hok] at hop; cases hop
  | true =>
   rw [hok] at hop
   simp only at hop
   obtain ⟨env, heap, val, wn, e0, e1, e2, e3, tr, _, _⟩ := vdraw_trace ops.toList 0 e e' h h' [] [] hop (fun k => by simp)
   simp only [Nat.zero_add, Array.length_toList] at e2 e3 tr
   refine wp_region_any hmix ?_
   refine draw_any hok hcall hdst tr rfl (ρ0 := ρ) (w0 := w) (by rw [e1]; exact hG) Q (fun ρ' a' w' hs hf => hQ ρ' a' w' ?_ ?_) ops.size _ a _ ρ 0 (fun _ => ⟨0, 0, 0, 0, false⟩) (by simp) ?_ ?_
   ·rw [e1, e3] at hs; exact hs
   ·rw [e2] at hf; exact hf
   ·have : ∀ n, unrun (fun k => (Array.replicate ops.size false).getD k false) n ≤ n := by
     intro n
     induction n with
     | zero => exact Nat.le_refl _
     | succ n ih => simp only [unrun]; split <;> omega
    exact this _
   ·have hS : ∀ k, (Array.replicate ops.size false).getD k false = false := fun k => getD_replicate_false ops.size k
    have hcur : ∀ n t, curAt ops val (fun k => (Array.replicate ops.size false).getD k false) (env 0) n t = (env 0).get t := by
     intro n t
     induction n with
     | zero => rfl
     | succ n ih => simp only [curAt]; rw [if_neg (fun hh => by have := hh.1; rw [hS] at this; cases this)]; exact ih
    have hE : ∀ k, ¬ IsEarly P ops wn ops.size (fun k => (Array.replicate ops.size false).getD k false) 0 k := fun k hk => by have := hk.1; simp only [hS] at this; cases this
    refine ⟨fun j o hj => ?_, Nat.zero_le _, fun k o _ _ _ hk => ?_, fun k o _ _ _ hk => by omega, ?_, fun t _ => ?_, fun k hk => absurd hk (hE k), fun j k hj => absurd hj (hE j), fun k hk => absurd hk (hE k), hF.size, hF.defers, fun k _ => hS k⟩
    ·simp only [hS] at hj; cases hj
    ·simp only [hS] at hk; cases hk
    ·rw [e1]; exact (Step.refl hR hw).drew
    ·rw [hcur, e0]; exact hF.rel.at_ t
def SoundX (P : Program) (X : Ext) : Prop := ∀ f g, X f = some g → ∀ args h v h', g args h = some (v, h') → SoundF P f args h v h'
theorem exec_wp (hmix : P.follows .mixedOrders = true) {X : Ext} : ∀ (k : Nat), (∀ j, j < k → SoundC P (vfun P (vexec P X j) X)) → ∀ (c : Code) (N : Nat) (e e' : Env) (h h' : VHeap) (x : VExit),
  vexec P X k c e h = some (x, e', h') → codeDst N c = true → ∀ (ρ : Ren) (a : Act) (w : World), Frm ρ N e a → Rel ρ h.get w → WF h.get h.next → Gd ρ h.get w → ∀ Q : Exit → Act → World → Prop,
   (∀ ρ' a' w', Step ρ h.get h.next w ρ' h'.get h'.next w' → Frm ρ' N e' a' → Q x.out a' w') → c.wp P Q a w := by
 intro k
 induction k using Nat.strongRecOn with
 | _ k IH =>
 cases k with
 | zero => intro _ c N e e' h h' x hop; simp [vexec] at hop
 | succ k =>
  intro hcalls c N e e' h h' x hop hd ρ a w hF hR hw hG Q hQ
  have ih := IH k (Nat.lt_succ_self k) (fun j hj => hcalls j (by omega))
  have same : ∀ {y : VExit} {e1 : Env} {h1 : VHeap}, some (y, e1, h1) = some (x, e', h') → y = x ∧ e1 = e' ∧ h1 = h' := by
   intro y e1 h1 he
   simp only [Option.some.injEq, Prod.mk.injEq] at he
   exact he
  cases c with
  | skip =>
   obtain ⟨rfl, rfl, rfl⟩ := same hop
   exact wp_skip (hQ ρ a w (Step.refl hR hw) hF)
  | label l =>
   obtain ⟨rfl, rfl, rfl⟩ := same hop
   exact wp_label (hQ ρ a w (Step.refl hR hw) hF)
  | exit id =>
   obtain ⟨rfl, rfl, rfl⟩ := same hop
   exact wp_exit (hQ ρ a w (Step.refl hR hw) hF)
  | ret =>
   obtain ⟨rfl, rfl, rfl⟩ := same hop
   exact wp_ret (hQ ρ a w (Step.refl hR hw) hF)
  | region id ops draw =>
   simp only [vexec] at hop
   split at hop
   ·rename_i e1 h1 hr
    obtain ⟨rfl, rfl, rfl⟩ := same hop
    refine region_wp hmix (hcalls k (Nat.lt_succ_self k)) hr (fun j o ho d hod => ?_) hF hR hw hG Q hQ
    simp only [codeDst] at hd
    have := List.all_eq_true.1 hd o (by simpa using Array.mem_of_getElem? ho)
    rw [hod] at this
    exact Nat.lt_of_lt_of_le (Nat.lt_succ_self _) (Nat.le_of_ble_eq_true this)
   ·cases hop
  | seq c1 c2 =>
   simp only [codeDst, Bool.and_eq_true] at hd
   simp only [vexec] at hop
   split at hop
   ·rename_i e1 h1 hr
    refine wp_seq (ih c1 N e e1 h h1 .normal hr hd.1 ρ a w hF hR hw hG _ fun ρ1 a1 w1 hs hf => ?_)
    exact ih c2 N e1 e' h1 h' x hop hd.2 ρ1 a1 w1 hf hs.rel hs.wf (hs.gd hG) Q fun ρ2 a2 w2 hs2 hf2 => hQ ρ2 a2 w2 (hs.trans hs2) hf2
   ·rename_i hne
    refine wp_seq (ih c1 N e e' h h' x hop hd.1 ρ a w hF hR hw hG _ fun ρ1 a1 w1 hs hf => ?_)
    cases x with
    | normal => exact absurd hop (hne _ _)
    | exit id => exact hQ ρ1 a1 w1 hs hf
    | ret => exact hQ ρ1 a1 w1 hs hf
  | cond y c1 c2 =>
   simp only [codeDst, Bool.and_eq_true] at hd
   simp only [vexec] at hop
   have hy := ev_rel hF.rel y
   split at hop
   ·rename_i he
    rw [he] at hy
    generalize hm : a.eval y = m at hy
    cases hy
    exact wp_cond_true hm (ih c1 N e e' h h' x hop hd.1 ρ a w hF hR hw hG Q hQ)
   ·rename_i he
    rw [he] at hy
    generalize hm : a.eval y = m at hy
    cases hy
    exact wp_cond_false hm (ih c2 N e e' h h' x hop hd.2 ρ a w hF hR hw hG Q hQ)
   ·cases hop
  | block id c =>
   simp only [codeDst] at hd
   simp only [vexec] at hop
   split at hop
   ·rename_i id' e1 h1 hr
    refine wp_block (ih c N e e1 h h1 (.exit id') hr hd ρ a w hF hR hw hG _ fun ρ1 a1 w1 hs hf => ?_)
    split at hop
    ·rename_i hid
     have hid := Nat.eq_of_beq_eq_true hid
     obtain ⟨rfl, rfl, rfl⟩ := same hop
     simp only [VExit.out, Exit.inBlock, hid, if_true]
     exact hQ ρ1 a1 w1 hs hf
    ·rename_i hid
     have hid := Nat.ne_of_beq_eq_false hid
     obtain ⟨rfl, rfl, rfl⟩ := same hop
     simp only [VExit.out, Exit.inBlock, hid, if_false]
     exact hQ ρ1 a1 w1 hs hf
   ·rename_i hne
    refine wp_block (ih c N e e' h h' x hop hd ρ a w hF hR hw hG _ fun ρ1 a1 w1 hs hf => ?_)
    cases x with
    | normal => exact hQ ρ1 a1 w1 hs hf
    | exit id' => exact absurd hop (hne _ _ _)
    | ret => exact hQ ρ1 a1 w1 hs hf
  | loop c =>
   simp only [codeDst] at hd
   refine wp_loop_n (fun n a1 w1 => n ≤ k + 1 ∧ ∃ e1 h1 ρ1, vexec P X n (.loop c) e1 h1 = some (x, e', h') ∧ Frm ρ1 N e1 a1 ∧ Step ρ h.get h.next w ρ1 h1.get h1.next w1) ?_ (k + 1) a w
    ⟨Nat.le_refl _, e, h, ρ, hop, hF, Step.refl hR hw⟩
   rintro n a1 w1 ⟨hn, e1, h1, ρ1, hop1, hF1, hs1⟩
   cases n with
   | zero => simp [vexec] at hop1
   | succ n =>
    simp only [vexec] at hop1
    have ihn := fun (e2 : Env) (h2 : VHeap) (y : VExit) (hr : vexec P X n c e1 h1 = some (y, e2, h2)) =>
     IH n (by omega) (fun j hj => hcalls j (by omega)) c N e1 e2 h1 h2 y hr hd ρ1 a1 w1 hF1 hs1.rel hs1.wf (hs1.gd hG)
    split at hop1
    ·rename_i e2 h2 hr
     refine ihn e2 h2 .normal hr _ fun ρ2 a2 w2 hs hf => ?_
     exact ⟨n, Nat.lt_succ_self n, by omega, e2, h2, ρ2, hop1, hf, hs1.trans hs⟩
    ·rename_i hne
     refine ihn e' h' x hop1 _ fun ρ2 a2 w2 hs hf => ?_
     cases x with
     | normal => exact absurd hop1 (hne _ _)
     | exit id => exact hQ ρ2 a2 w2 (hs1.trans hs) hf
     | ret => exact hQ ρ2 a2 w2 (hs1.trans hs) hf
  | rangeFunc f p x1 y => simp [vexec] at hop
  | scope c => simp [vexec] at hop
  | goto l => simp [vexec] at hop
  | refuse s => simp [vexec] at hop
theorem loadVar_of {t : TypeId} {a : Addr} {w : World} {mv : Value} (h : (Instr.loadAt t (.pointer (some a))).run P w = .ok mv w) : (loadVar t a).run P w = .ok mv w := by
 simpa [Instr.loadAt, Instr.sureAddr] using h
def resM (tmps : Array Value) : ResultVar → Sem Value
 | .tmp t => pure (tmps.getD t undef)
 | .cell a t => do loadVar t (← asAddr (tmps.getD a undef))
theorem results_eq (fn : Func) (tmps : Array Value) : results fn tmps = (do
  let vs ← fn.results.mapM (resM tmps)
  pure (if h : vs.size = 1 then vs[0] else .tuple vs)) := by
 have : (fun r => match r with | ResultVar.tmp t => (pure (tmps.getD t undef) : Sem Value) | ResultVar.cell a t => do loadVar t (← asAddr (tmps.getD a undef))) = resM tmps := by
  funext r; cases r <;> rfl
 unfold results
 rw [← this]
 rfl
theorem results_sound {fn : Func} {e : Env} {h : VHeap} {v : VV} (hop : vresults P fn e h = some v) {ρ : Ren} {a : Act} {w : World} (hE : RelE ρ e a.tmps) (hR : Rel ρ h.get w) :
  ∃ mv, (results fn a.tmps).run P w = .ok mv w ∧ RelV ρ v mv := by
 unfold vresults at hop
 have key : ∀ (l : List ResultVar) (vs : List VV), l.mapM (vresult P e h) = some vs →
   ∃ ms : List Value, (l.mapM (resM a.tmps)).run P w = .ok ms w ∧ RelL ρ vs ms := by
  intro l
  induction l with
  | nil => intro vs hvs; simp at hvs; subst hvs; exact ⟨[], by simp, RelL.nil ρ⟩
  | cons r l ih =>
   intro vs hvs
   simp only [List.mapM_cons, Option.bind_eq_bind, Option.bind_eq_some_iff, Option.pure_def, Option.some.injEq] at hvs
   obtain ⟨v, hv, vs', hvs', rfl⟩ := hvs
   obtain ⟨ms, hms, hrel⟩ := ih vs' hvs'
   cases r with
   | tmp t =>
    simp only [vresult, Option.some.injEq] at hv; subst hv
    refine ⟨a.tmps.getD t undef :: ms, ?_, RelL.cons (hE.at_ t) hrel⟩
    simp only [List.mapM_cons, resM, Sem.run_bind, Sem.run_pure, Result.andThen_ok, hms]
   | cell x t =>
    simp only [vresult] at hv
    have hx := hE.at_ x
    cases hxe : e.get x <;> rw [hxe] at hv <;> (try (simp [vload] at hv; done))
    rw [hxe] at hx
    obtain ⟨mv, hmv, hr⟩ := vload_sound hv hx hR (fun _ _ _ h => h)
    refine ⟨mv :: ms, ?_, RelL.cons hr hrel⟩
    simp only [List.mapM_cons, resM]
    generalize a.tmps.getD x undef = ma at hx hmv ⊢
    cases hx
    simp only [Sem.run_bind, asAddr, Sem.run_pure, Result.andThen_ok, loadVar_of hmv, hms]
 have run : ∀ ms : List Value, (fn.results.toList.mapM (resM a.tmps)).run P w = .ok ms w →
   (results fn a.tmps).run P w = .ok (if hs : ms.toArray.size = 1 then ms.toArray[0] else .tuple ms.toArray) w := by
  intro ms hms
  rw [results_eq, Array.mapM_eq_mapM_toList]
  simp only [Sem.run_bind, Sem.run_map, hms, Result.andThen_ok, Sem.run_pure]
 split at hop
 ·rename_i v0 hvs
  simp only [Option.some.injEq] at hop; subst hop
  obtain ⟨ms, hms, hrel⟩ := key _ _ hvs
  obtain ⟨v', x', rfl, hv', hnil⟩ := hrel.of_cons
  have hn := hnil.of_nil
  subst hn
  exact ⟨v', by rw [run _ hms]; simp, hv'⟩
 ·rename_i vs hne hvs
  simp only [Option.some.injEq] at hop; subst hop
  obtain ⟨ms, hms, hrel⟩ := key _ _ hvs
  refine ⟨.tuple ms.toArray, ?_, RelV.of_tuple (by simpa using hrel)⟩
  rw [run _ hms, dif_neg]
  intro h1
  have hl : vs.length = 1 := by rw [hrel.1]; simpa using h1
  match vs, hl with
  | [v0], _ => exact hne v0 rfl
 ·cases hop
theorem fun_sound (hmix : P.follows .mixedOrders = true) (hdst : progDst P = true) {X : Ext} (hX : SoundX P X) : ∀ k, SoundC P (vfun P (vexec P X k) X) := by
 intro k
 induction k using Nat.strongRecOn with
 | _ k IH =>
 intro f args h v h' hop
 unfold vfun at hop
 split at hop
 ·rename_i g hg
  exact hX f g hg args h v h' hop
 ·split at hop
  ·rename_i fn hf
   split at hop
   ·rename_i c hc
    split at hop
    ·rename_i hlen
     intro ρ w margs hR hw hrel hG
     have hd : codeDst fn.ntmps c = true := by
      have := List.all_eq_true.1 hdst fn (by simpa using Array.mem_of_getElem? hf)
      rw [hc] at this; exact this
     have hml : margs.length = args.length := hrel.1.symm
     have hF : Frm ρ fn.ntmps args { tmps := margs.toArray ++ Array.replicate (fn.ntmps - margs.toArray.size) undef, defers := [] } := by
      refine ⟨⟨fun t => ?_⟩, by simp; omega, rfl⟩
      by_cases ht : t < args.length
      ·have h1 : args[t]? = some args[t] := List.getElem?_eq_getElem ht
       obtain ⟨mv, h2, h3⟩ := hrel.at h1
       have e1 : Env.get args t = args[t] := by simp [Env.get, List.getD, h1]
       rw [e1]
       have e2 : (margs.toArray ++ Array.replicate (fn.ntmps - margs.toArray.size) undef).getD t undef = mv := by
        rw [Array.getD_eq_getD_getElem?, Array.getElem?_append_left (by simp; omega)]
        simp [h2]
       rw [e2]; exact h3
      ·have e1 : Env.get args t = .undef := by simp [Env.get, List.getD, List.getElem?_eq_none (Nat.le_of_not_lt ht)]
       rw [e1]; exact .undef _
     refine calls_of_wp hf hc ?_
     split at hop
     ·rename_i e1 h1 hex
      simp only [Option.map_eq_some_iff, Prod.mk.injEq] at hop
      obtain ⟨v0, hv0, rfl, rfl⟩ := hop
      refine exec_wp hmix k (fun j hj => IH j hj) c fn.ntmps args e1 h h1 .normal hex hd ρ _ w hF hR hw hG _ fun ρ1 a1 w1 hs hf1 => ?_
      obtain ⟨mv, hm, hr⟩ := results_sound hv0 hf1.rel hs.rel
      exact ⟨hf1.defers, mv, hm, mv, ρ1, rfl, hs, hr⟩
     ·rename_i e1 h1 hex
      simp only [Option.map_eq_some_iff, Prod.mk.injEq] at hop
      obtain ⟨v0, hv0, rfl, rfl⟩ := hop
      refine exec_wp hmix k (fun j hj => IH j hj) c fn.ntmps args e1 h h1 .ret hex hd ρ _ w hF hR hw hG _ fun ρ1 a1 w1 hs hf1 => ?_
      obtain ⟨mv, hm, hr⟩ := results_sound hv0 hf1.rel hs.rel
      exact ⟨hf1.defers, mv, hm, mv, ρ1, rfl, hs, hr⟩
     ·cases hop
    ·cases hop
   ·cases hop
  ·cases hop
theorem run_sound (hmix : P.follows .mixedOrders = true) (hdst : progDst P = true) {X : Ext} (hX : SoundX P X) {k : Nat} {f : FuncId} {args : List VV} {h h' : VHeap} {v : VV} (hop : vrun P X k f args h = some (v, h')) :
  SoundF P f args h v h' := fun_sound hmix hdst hX k f args h v h' hop
end
end Go.Proofs.Ythlbahcggmbfaaa.V

namespace Go.Proofs.Ythlbahcggmbfaaa.V
open Go.RowKit Go.ChangeShapes Go.WideShapes
inductive FT where
 | bool
 | int (k : IntKind)
 | str
 | row (bytes : Nat) (es : List FT)
 
 | ptr (es : List FT)
 
 | ifc (ts : List Nat) (es : List FT)
 deriving Inhabited
section
variable (P : Program)
def tiles : List Field → List (List FT) → Nat → Nat → Bool
 | [], [], o, tot => Nat.beq o tot
 | f :: fs, l :: ls, o, tot => Nat.beq f.offset o && Nat.beq l.length (P.cellsOf f.type) && tiles fs ls (o + l.length) tot
 | _, _, _, _ => false
def flat : Nat → TypeId → Option (List FT)
 | 0, _ => none
 | n + 1, t =>
  match P.underlying t with
  | some .bool => some [.bool]
  | some (.int k) => some [.int k]
  | some .string => some [.str]
  | some (.slice e) => match flat n e with
   | some fts => if fts.length = P.cellsOf e ∧ 0 < fts.length then some [.row (P.bytesOf e) fts] else none
   | none => none
  | some (.struct fs) => match fs.toList.mapM fun f => flat n f.type with
   | some ls => if tiles P fs.toList ls 0 (P.cellsOf t) then some ls.flatten else none
   | none => none
  | _ => none
end
inductive Reads (W : World) : FT → Value → Prop
 | bool (b : Bool) : Reads W .bool (.bool b)
 | int (k : IntKind) (n : Int) (h : (Lit.int k n).wf = true) : Reads W (.int k) (.int k n)
 | str (s : ByteArray) (h : s.size ≤ reachBytes) : Reads W .str (.string s)
 | nil (bytes : Nat) (fts : List FT) : Reads W (.row bytes fts) (.slice none 0 0)
 | row (bytes : Nat) (fts : List FT) (a : Addr) (len cap : Nat) (V : Nat → List Value) (hl : len ≤ cap) (hm : cap ≤ maxLen) (hb : len * bytes ≤ reachBytes) (h0 : 0 < fts.length)
   (hE : 0 < cap → ∃ c t fr, W.heap[a.block]? = some (.cells c t fr) ∧ a.spot = none ∧ a.off + len * fts.length ≤ c.size ∧
    ∀ i j, i < len → j < fts.length → c[a.off + i * fts.length + j]? = (V i)[j]?)
   (hlen : ∀ i, i < len → (V i).length = fts.length)
   (hr : ∀ (i : Nat), i < len → ∀ (j : Nat) ft v, fts[j]? = some ft → (V i)[j]? = some v → Reads W ft v) : Reads W (.row bytes fts) (.slice (some a) len cap)
def ReadsL (W : World) (fts : List FT) (cs : List Value) : Prop := fts.length = cs.length ∧ ∀ (j : Nat) ft v, fts[j]? = some ft → cs[j]? = some v → Reads W ft v
theorem ReadsL.one {W : World} {ft : FT} {v : Value} (h : Reads W ft v) : ReadsL W [ft] [v] := ⟨rfl, fun j a b ha hb => by
 cases j with
 | zero => simp at ha hb; subst ha; subst hb; exact h
 | succ j => simp at ha⟩
theorem ReadsL.nil (W : World) : ReadsL W [] [] := ⟨rfl, by simp⟩
theorem ReadsL.append {W : World} {x y : List FT} {x' y' : List Value} (h : ReadsL W x x') (k : ReadsL W y y') : ReadsL W (x ++ y) (x' ++ y') := by
 refine ⟨by simp [h.1, k.1], fun i a b ha hb => ?_⟩
 by_cases hi : i < x.length
 ·rw [List.getElem?_append_left hi] at ha
  rw [List.getElem?_append_left (by rw [← h.1]; exact hi)] at hb
  exact h.2 i a b ha hb
 ·rw [List.getElem?_append_right (by omega)] at ha
  rw [List.getElem?_append_right (by rw [← h.1]; omega)] at hb
  rw [← h.1] at hb
  exact k.2 _ a b ha hb
section
variable {H : Type} {enc : TypeId × Value → H} {P : Program} {W : World}
theorem mem_weightsAll {e : TypeId} {ds : List (DataW H)} {d : DataW H} (h : d ∈ ds) {n : Nat} (hn : n ∈ d.weights P e) : n ∈ DataW.weightsAll P e ds := by
 induction ds with
 | nil => cases h
 | cons x r ih =>
  simp only [DataW.weightsAll, List.mem_append]
  rcases List.mem_cons.1 h with rfl | h
  ·exact .inl hn
  ·exact .inr (ih h)
theorem spot_of_cell {w : World} {a : Addr} {v : Value} (h : w.cell? a = some v) : ∃ c t fr, w.heap[a.block]? = some (.cells c t fr) ∧ a.spot = none ∧ c[a.off]? = some v := by
 unfold World.cell? at h
 split at h
 ·rename_i c t fr hc
  split at h
  ·cases h
  ·rename_i hs
   exact ⟨c, t, fr, hc, by cases ha : a.spot <;> simp_all, h⟩
 ·cases h
theorem add_block (a : Addr) (n : Nat) : (a.add n).block = a.block := by unfold Addr.add; split <;> rfl
theorem add_off (a : Addr) (n : Nat) : (a.add n).off = a.off + n := by unfold Addr.add; split <;> simp_all
theorem tiles_reads {n : Nat} {dep : Nat} (ih : ∀ (n : Nat) (t : TypeId) (cs : List Value) (d : DataW H) (ps : List MemPlace) (fts : List FT), flat P dep t = some fts → DataW.trod enc P W 0 (fun _ => true) true n t cs = some (d, ps) →
   (∀ m ∈ d.weights P t, m ≤ reachBytes) → ReadsL W fts cs) (cs : List Value) :
  ∀ (fs : List Field) (ls : List (List FT)) (xs : List (DataW H × List MemPlace)) (o : Nat), fs.mapM (fun f => flat P dep f.type) = some ls → tiles P fs ls o cs.length = true → xs.length = fs.length →
   (∀ (i : Nat) f, fs[i]? = some f → DataW.trod enc P W 0 (fun _ => true) true n f.type ((cs.drop f.offset).take (P.cellsOf f.type)) = xs[i]?) →
   (∀ m ∈ DataW.weightsEach P (fs.map (·.type)) (xs.map (·.1)), m ≤ reachBytes) → o ≤ cs.length → ReadsL W ls.flatten (cs.drop o) := by
 intro fs
 induction fs with
 | nil =>
  intro ls xs o hls ht hx hall hw ho
  simp only [List.mapM_nil, Option.pure_def, Option.some.injEq] at hls
  subst hls
  simp only [tiles] at ht
  have := Nat.eq_of_beq_eq_true ht
  subst this
  simp only [List.flatten_nil, List.drop_length]
  exact ReadsL.nil W
 | cons f fs ihf =>
  intro ls xs o hls ht hx hall hw ho
  simp only [List.mapM_cons, Option.bind_eq_bind, Option.pure_def] at hls
  cases hfl : flat P dep f.type with
  | none => rw [hfl] at hls; cases hls
  | some l =>
   cases hr : fs.mapM (fun f => flat P dep f.type) with
   | none => rw [hfl, hr] at hls; cases hls
   | some lr =>
    rw [hfl, hr] at hls
    simp only [Option.bind_some, Option.some.injEq] at hls
    subst hls
    simp only [tiles, Bool.and_eq_true] at ht
    obtain ⟨⟨h1, h2⟩, h3⟩ := ht
    have h1 := Nat.eq_of_beq_eq_true h1
    have h2 := Nat.eq_of_beq_eq_true h2
    cases xs with
    | nil => simp at hx
    | cons x xr =>
     have hx0 := hall 0 f rfl
     simp only [List.getElem?_cons_zero] at hx0
     have hR := ih n f.type _ x.1 x.2 l hfl (by rw [hx0]) (fun m hm => hw m (by simp only [List.map_cons, DataW.weightsEach, List.mem_append]; exact .inl hm))
     rw [h1, ← h2] at hR
     have hlen := hR.1
     have hle : o + l.length ≤ cs.length := by
      rw [List.length_take, List.length_drop] at hlen
      omega
     have hT := ihf lr xr (o + l.length) hr h3 (by simpa using hx) (fun i g hg => by simpa using hall (i + 1) g (by simpa using hg)) (fun m hm => hw m (by simp only [List.map_cons, DataW.weightsEach, List.mem_append]; exact .inr hm)) hle
     have e : cs.drop o = (cs.drop o).take l.length ++ cs.drop (o + l.length) := by
      rw [← List.drop_drop, List.take_append_drop]
     rw [e, List.flatten_cons]
     exact hR.append hT
theorem trod_reads : ∀ (dep : Nat) (fuel : Nat) (t : TypeId) (cs : List Value) (d : DataW H) (ps : List MemPlace) (fts : List FT), flat P dep t = some fts → DataW.trod enc P W 0 (fun _ => true) true fuel t cs = some (d, ps) →
  (∀ m ∈ d.weights P t, m ≤ reachBytes) → ReadsL W fts cs := by
 intro dep
 induction dep with
 | zero => intro n t cs d ps fts hf; cases hf
 | succ dep ih =>
  intro fuel t cs d ps fts hf h hw
  cases fuel with
  | zero => simp [DataW.trod] at h
  | succ n =>
   simp only [flat] at hf
   split at hf
   ·rename_i ht
    simp only [Option.some.injEq] at hf; subst hf
    obtain ⟨b, rfl, _⟩ := DataW.trod_bool ht h
    exact ReadsL.one (.bool b)
   ·rename_i k ht
    simp only [Option.some.injEq] at hf; subst hf
    obtain ⟨m, rfl, _, hwf⟩ := DataW.trod_int ht h
    exact ReadsL.one (.int k m hwf)
   ·rename_i ht
    simp only [Option.some.injEq] at hf; subst hf
    obtain ⟨s, rfl, hx, _⟩ := DataW.trod_string ht h
    simp only [Prod.mk.injEq] at hx
    obtain ⟨rfl, rfl⟩ := hx
    exact ReadsL.one (.str s (by have := hw s.data.toList.length (by simp [DataW.weights]); simpa using this))
   ·rename_i e ht
    split at hf
    ·rename_i fe hfe
     split at hf
     ·rename_i hz
      simp only [Option.some.injEq] at hf; subst hf
      obtain ⟨hz, h0⟩ := hz
      rcases Go.Deep.open_slice ht h with ⟨rfl, _⟩ | ⟨a, len, cap, m, n', D, Pl, rfl, hb, hl, hm, hmm, hx, hel⟩
      ·exact ReadsL.one (.nil _ _)
      ·simp only [if_true] at hmm
       subst hmm
       simp only [Prod.mk.injEq] at hx
       obtain ⟨rfl, rfl⟩ := hx
       have hwt : ∀ x ∈ DataW.weights P t (DataW.slice ((List.range len).map D) ((List.range (m - len)).map fun j => D (len + j))), x ≤ reachBytes := hw
       simp only [DataW.weights, ht, List.mem_cons, List.mem_append, List.length_map, List.length_range] at hwt
       have hbytes : m * P.bytesOf e ≤ reachBytes := by
        have := hwt _ (.inl rfl)
        rwa [show len + (m - len) = m by omega] at this
       have hDw : ∀ i, i < m → ∀ x ∈ (D i).weights P e, x ≤ reachBytes := by
        intro i hi x hxm
        by_cases hil : i < len
        ·exact hwt x (.inr (.inl (mem_weightsAll (List.mem_map.2 ⟨i, by simpa using hil, rfl⟩) hxm)))
        ·exact hwt x (.inr (.inr (mem_weightsAll (List.mem_map.2 ⟨i - len, by simp; omega, by rw [show len + (i - len) = i by omega]⟩) hxm)))
       obtain ⟨V, hV⟩ := Go.Deep.choose_lt (α := List Value) (p := fun i cs' => W.cells? 0 (a.add (i * P.cellsOf e)) (P.cellsOf e) = some cs' ∧ DataW.trod enc P W 0 (fun _ => true) true n' e cs' = some (D i, Pl i)) hel
       have hcell : ∀ i, i < m → ∀ j, j < fe.length → W.cell? ((a.add (i * P.cellsOf e)).add j) = (V i)[j]? := by
        intro i hi j hj
        exact (World.cells?_some (hV i hi).1).2.2 j (by omega)
       have hVl : ∀ i, i < m → (V i).length = fe.length := fun i hi => ((World.cells?_some (hV i hi).1).2.1).trans hz.symm
       refine ReadsL.one (.row _ _ a len m V hl hm (Nat.le_trans (Nat.mul_le_mul_right _ hl) hbytes) h0 (fun hpos => ?_) (fun i hi => hVl i (by omega)) (fun i hi j ft v hft hv => ?_))
       ·have hc0 := hcell 0 hpos 0 h0
        have hv0 : (V 0)[0]? = some ((V 0)[0]'(by rw [hVl 0 hpos]; exact h0)) := List.getElem?_eq_getElem _
        rw [hv0] at hc0
        obtain ⟨c, tt, fr, hc, hs, _⟩ := spot_of_cell hc0
        rw [add_block, add_block] at hc
        have hat : ∀ i j, i < m → j < fe.length → c[a.off + i * fe.length + j]? = (V i)[j]? := by
         intro i j hi hj
         have h1 := hcell i hi j hj
         have hv : (V i)[j]? = some ((V i)[j]'(by rw [hVl i hi]; exact hj)) := List.getElem?_eq_getElem _
         rw [hv] at h1 ⊢
         obtain ⟨c', _, _, hc', _, h2⟩ := spot_of_cell h1
         rw [add_block, add_block, hc] at hc'
         simp only [Option.some.injEq, Obj.cells.injEq] at hc'
         obtain ⟨rfl, _⟩ := hc'
         rw [add_off, add_off, ← hz] at h2
         exact h2
        refine ⟨c, tt, fr, hc, ?_, ?_, fun i j hi hj => hat i j (by omega) hj⟩
        ·simpa [Addr.add] using hs
        ·by_cases hlen0 : len = 0
         ·subst hlen0
          have := hat 0 0 hpos h0
          rw [hv0] at this
          have := (Array.getElem?_eq_some_iff.1 this).1
          simp at this ⊢
          omega
         ·have h1 := hat (len - 1) (fe.length - 1) (by omega) (by omega)
          rw [List.getElem?_eq_getElem (by rw [hVl _ (by omega)]; omega)] at h1
          have h2 := (Array.getElem?_eq_some_iff.1 h1).1
          have h3 : len * fe.length = (len - 1) * fe.length + fe.length := by
           conv => lhs; rw [show len = (len - 1) + 1 by omega, Nat.add_mul, Nat.one_mul]
          omega
       ·exact (ih n' e (V i) (D i) (Pl i) fe hfe (hV i (by omega)).2 (hDw i (by omega))).2 j ft v hft hv
     ·cases hf
    ·cases hf
   ·rename_i fs ht
    split at hf
    ·rename_i ls hls
     split at hf
     ·rename_i hti
      simp only [Option.some.injEq] at hf; subst hf
      obtain ⟨xs, m, hm, hx, hcs, hxl, hall⟩ := DataW.trod_struct ht h
      simp only [Nat.add_right_cancel_iff] at hm
      subst hm
      simp only [Prod.mk.injEq] at hx
      obtain ⟨rfl, rfl⟩ := hx
      have := tiles_reads (enc := enc) ih cs fs.toList ls xs 0 hls (by rw [hcs]; exact hti) (by simpa using hxl) (fun i f hi => hall i f (by simpa using hi)) (fun m hm => hw m (by simp only [DataW.weights, ht]; exact hm)) (by omega)
      simpa using this
     ·cases hf
    ·cases hf
   ·cases hf
end
end Go.Proofs.Ythlbahcggmbfaaa.V

namespace Go.Proofs.Ythlbahcggmbfaaa.V
open Go.RowKit Go.ChangeShapes Go.WideShapes
inductive D where
 | bool (b : Bool)
 | int (n : Int)
 | str (s : ByteArray)
 | nil
 | row (es : List (List D))
 deriving Inhabited
inductive Has (g : Nat → Option VObj) : FT → D → VV → Prop
 | bool (b : Bool) : Has g .bool (.bool b) (.bool b)
 | int (k : IntKind) (n : Int) (h : (Lit.int k n).wf = true) : Has g (.int k) (.int n) (.int k n)
 | str (s : ByteArray) (h : s.size ≤ reachBytes) : Has g .str (.str s) (.str s)
 | nil (bytes : Nat) (fts : List FT) : Has g (.row bytes fts) .nil .nilslice
 | row (bytes : Nat) (fts : List FT) (rows : List (List D)) (b : Nat) (k : Blk) (hg : g b = some (.cells k)) (hro : k.ro = true) (hz : k.esz = fts.length) (h0 : 0 < fts.length) (hlen : k.es.length = rows.length)
   (hb : rows.length * bytes ≤ reachBytes)
   (hrl : ∀ (i : Nat) r cs, rows[i]? = some r → k.es[i]? = some cs → r.length = fts.length ∧ cs.length = fts.length)
   (hr : ∀ (i : Nat) r cs, rows[i]? = some r → k.es[i]? = some cs → ∀ (j : Nat) ft d v, fts[j]? = some ft → r[j]? = some d → cs[j]? = some v → Has g ft d v) :
   Has g (.row bytes fts) (.row rows) (.slice b 0 rows.length none fts.length)
structure HasL (g : Nat → Option VObj) (fts : List FT) (ds : List D) (vs : List VV) : Prop where
 len : ds.length = fts.length
 lenv : vs.length = fts.length
 at_ : ∀ (j : Nat) ft d v, fts[j]? = some ft → ds[j]? = some d → vs[j]? = some v → Has g ft d v
theorem Has.mono {g g' : Nat → Option VObj} (hle : ∀ b o, g b = some o → g' b = some o) {ft : FT} {d : D} {v : VV} (h : Has g ft d v) : Has g' ft d v := by
 induction h with
 | bool b => exact .bool b
 | int k n h => exact .int k n h
 | str s h => exact .str s h
 | nil bytes fts => exact .nil bytes fts
 | row bytes fts rows b k hg hro hz h0 hlen hb hrl hr ih => exact .row bytes fts rows b k (hle _ _ hg) hro hz h0 hlen hb hrl ih
theorem HasL.mono {g g' : Nat → Option VObj} (hle : ∀ b o, g b = some o → g' b = some o) {fts : List FT} {ds : List D} {vs : List VV} (h : HasL g fts ds vs) : HasL g' fts ds vs :=
 ⟨h.len, h.lenv, fun j ft d v a b c => (h.at_ j ft d v a b c).mono hle⟩
theorem HasL.nil (g : Nat → Option VObj) : HasL g [] [] [] := ⟨rfl, rfl, by simp⟩
theorem HasL.cons {g : Nat → Option VObj} {ft : FT} {d : D} {v : VV} {fts : List FT} {ds : List D} {vs : List VV} (h : Has g ft d v) (k : HasL g fts ds vs) : HasL g (ft :: fts) (d :: ds) (v :: vs) := by
 refine ⟨by simp [k.len], by simp [k.lenv], fun j a b c h1 h2 h3 => ?_⟩
 cases j with
 | zero => simp at h1 h2 h3; subst h1; subst h2; subst h3; exact h
 | succ j => simp at h1 h2 h3; exact k.at_ j a b c h1 h2 h3
structure St (W : World) (ρ : Ren) (h : VHeap) : Prop where
 rel : Rel ρ h.get W
 wf : WF h.get h.next
 ro : ∀ b o, h.get b = some o → ∃ k, o = .cells k ∧ k.ro = true ∧ k.solo = false ∧ k.last = false
def VExt (h h' : VHeap) : Prop := ∀ b o, h.get b = some o → h'.get b = some o
theorem St.empty (W : World) : St W (fun _ => none) .empty := by
 have : ∀ b, VHeap.empty.get b = none := fun b => by rw [VHeap.get_eq, if_neg (by simp [VHeap.empty])]
 refine ⟨⟨(fun b l h => by cases h), (fun b1 b2 l1 l2 o1 o2 h => by cases h)⟩, ⟨?_, ?_, ?_, ?_, ?_⟩, ?_⟩ <;> intros <;> simp_all
theorem St.push {W : World} {ρ : Ren} {h : VHeap} (hs : St W ρ h) (l : Loc) (k : Blk) (hro : k.ro = true) (hso : k.solo = false) (hla : k.last = false) (hfam : k.fam = h.next) (ho : RelO ρ l (.cells k) W.heap[l.mb]?) :
  St W (ρ.add h.next l) (h.push (.cells k)) ∧ Ren.le ρ (ρ.add h.next l) ∧ VExt h (h.push (.cells k)) := by
 have hn := hs.rel.none hs.wf (Nat.le_refl h.next)
 have hext : VExt h (h.push (.cells k)) := fun b o hb => by
  rw [VHeap.get_push, if_neg (by have := VHeap.get_lt hb; omega)]; exact hb
 refine ⟨⟨?_, ?_, ?_⟩, Ren.le_add hn, hext⟩
 ·refine hs.rel.insert (o := .cells k) hn (by rw [VHeap.get_push, if_pos rfl]) (fun b hb _ => by rw [VHeap.get_push, if_neg hb]) ho ?_
  intro b2 l2 o2 h2 h3 _
  obtain ⟨k2, rfl, hr2, _⟩ := hs.ro b2 o2 h3
  exact ⟨k, k2, rfl, rfl, .inl ⟨hro, hr2⟩⟩
 ·refine ⟨?_, ?_, ?_, ?_, ?_⟩
  ·intro b o' hb
   exact VHeap.get_lt hb
  ·intro b k' hb
   rw [VHeap.get_push] at hb
   split at hb
   ·simp only [Option.some.injEq, VObj.cells.injEq] at hb
    subst hb; rw [hfam]; simp
   ·have := hs.wf.fam b k' hb; simp; omega
  ·intro b k' hb hsolo
   rw [VHeap.get_push] at hb
   split at hb
   ·simp only [Option.some.injEq, VObj.cells.injEq] at hb
    subst hb; rw [hso] at hsolo; cases hsolo
   ·obtain ⟨k2, e, _, h2, _⟩ := hs.ro b _ hb
    simp only [VObj.cells.injEq] at e
    subst e; rw [h2] at hsolo; cases hsolo
  ·intro b k' hb hlast
   rw [VHeap.get_push] at hb
   split at hb
   ·simp only [Option.some.injEq, VObj.cells.injEq] at hb
    subst hb; rw [hla] at hlast; cases hlast
   ·obtain ⟨k2, e, _, _, h2⟩ := hs.ro b _ hb
    simp only [VObj.cells.injEq] at e
    subst e; rw [h2] at hlast; cases hlast
  ·intro b k' hb hlast
   rw [VHeap.get_push] at hb
   split at hb
   ·simp only [Option.some.injEq, VObj.cells.injEq] at hb
    subst hb; rw [hla] at hlast; cases hlast
   ·obtain ⟨k2, e, _, _, h2⟩ := hs.ro b _ hb
    simp only [VObj.cells.injEq] at e
    subst e; rw [h2] at hlast; cases hlast
 ·intro b o hb
  rw [VHeap.get_push] at hb
  split at hb
  ·simp only [Option.some.injEq] at hb; subst hb; exact ⟨k, rfl, hro, hso, hla⟩
  ·exact hs.ro b o hb
def Bd (W : World) (ft : FT) (v : Value) : Prop :=
 ∀ ρ h, St W ρ h → ∃ ρ' h' d x, St W ρ' h' ∧ VExt h h' ∧ Ren.le ρ ρ' ∧ Has h'.get ft d x ∧ RelV ρ' x v ∧ oneCell x = true
theorem bd_list {W : World} : ∀ (fts : List FT) (cs : List Value), fts.length = cs.length → (∀ (j : Nat) ft v, fts[j]? = some ft → cs[j]? = some v → Bd W ft v) → ∀ ρ h, St W ρ h →
  ∃ ρ' h' ds xs, St W ρ' h' ∧ VExt h h' ∧ Ren.le ρ ρ' ∧ HasL h'.get fts ds xs ∧ RelL ρ' xs cs ∧ xs.all oneCell = true
 | [], [], _, _, ρ, h, hs => ⟨ρ, h, [], [], hs, fun _ _ h => h, Ren.le.refl ρ, HasL.nil _, RelL.nil ρ, rfl⟩
 | ft :: fts, v :: cs, hl, hb, ρ, h, hs => by
  obtain ⟨ρ1, h1, d, x, s1, e1, l1, k1, r1, o1⟩ := hb 0 ft v rfl rfl ρ h hs
  obtain ⟨ρ2, h2, ds, xs, s2, e2, l2, k2, r2, o2⟩ := bd_list fts cs (by simpa using hl) (fun j a b h1 h2 => hb (j + 1) a b (by simpa using h1) (by simpa using h2)) ρ1 h1 s1
  exact ⟨ρ2, h2, d :: ds, x :: xs, s2, fun b o hb => e2 b o (e1 b o hb), l1.trans l2, HasL.cons (k1.mono e2) k2, RelL.cons (r1.mono l2) r2, by simp [o1, o2]⟩
 | [], _ :: _, hl, _, _, _, _ => by simp at hl
 | _ :: _, [], hl, _, _, _, _ => by simp at hl
theorem bd_rows {W : World} (fts : List FT) (V : Nat → List Value) : ∀ (n : Nat), (∀ i, i < n → (V i).length = fts.length) → (∀ (i : Nat), i < n → ∀ (j : Nat) ft v, fts[j]? = some ft → (V i)[j]? = some v → Bd W ft v) → ∀ ρ h, St W ρ h →
  ∃ (ρ' : Ren) (h' : VHeap) (rows : List (List D)) (es : List (List VV)), St W ρ' h' ∧ VExt h h' ∧ Ren.le ρ ρ' ∧ rows.length = n ∧ es.length = n ∧ ∀ (i : Nat) r cs, rows[i]? = some r → es[i]? = some cs → HasL h'.get fts r cs ∧ RelL ρ' cs (V i) ∧ cs.all oneCell = true
 | 0, _, _, ρ, h, hs => ⟨ρ, h, [], [], hs, fun _ _ h => h, Ren.le.refl ρ, rfl, rfl, by simp⟩
 | n + 1, hl, hb, ρ, h, hs => by
  obtain ⟨ρ1, h1, rows, es, s1, e1, l1, a1, a2, a3⟩ := bd_rows fts V n (fun i hi => hl i (by omega)) (fun i hi => hb i (by omega)) ρ h hs
  obtain ⟨ρ2, h2, ds, xs, s2, e2, l2, k2, r2, o2⟩ := bd_list fts (V n) (hl n (by omega)).symm (hb n (by omega)) ρ1 h1 s1
  refine ⟨ρ2, h2, rows ++ [ds], es ++ [xs], s2, fun b o hb => e2 b o (e1 b o hb), l1.trans l2, by simp [a1], by simp [a2], fun i r cs hr hc => ?_⟩
  by_cases hi : i < n
  ·rw [List.getElem?_append_left (by omega)] at hr hc
   obtain ⟨q1, q2, q3⟩ := a3 i r cs hr hc
   exact ⟨q1.mono e2, q2.mono l2, q3⟩
  ·have : i < (rows ++ [ds]).length := (List.getElem?_eq_some_iff.1 hr).1
   simp only [List.length_append, List.length_cons, List.length_nil, a1] at this
   have : i = n := by omega
   subst this
   rw [List.getElem?_append_right (by omega)] at hr hc
   simp only [a1, a2, Nat.sub_self, List.getElem?_cons_zero, Option.some.injEq] at hr hc
   subst hr; subst hc
   exact ⟨k2, r2, o2⟩
theorem bd_reads {W : World} (hd : ∃ (b : Nat) (c : Array Value) (t : TypeId) (fr : Nat × Nat), W.heap[b]? = some (Obj.cells c t fr)) {ft : FT} {v : Value} (h : Reads W ft v) : Bd W ft v := by
 induction h with
 | bool b => exact fun ρ h hs => ⟨ρ, h, .bool b, .bool b, hs, fun _ _ h => h, Ren.le.refl ρ, .bool b, .bool b, rfl⟩
 | int k n hw => exact fun ρ h hs => ⟨ρ, h, .int n, .int k n, hs, fun _ _ h => h, Ren.le.refl ρ, .int k n hw, .int k n, rfl⟩
 | str s hz => exact fun ρ h hs => ⟨ρ, h, .str s, .str s, hs, fun _ _ h => h, Ren.le.refl ρ, .str s hz, .str s, rfl⟩
 | nil bytes fts => exact fun ρ h hs => ⟨ρ, h, .nil, .nilslice, hs, fun _ _ h => h, Ren.le.refl ρ, .nil bytes fts, .nilslice, rfl⟩
 | row bytes fts a len cap V hl hm hb h0 hE hlen hr ih =>
  intro ρ h hs
  obtain ⟨ρ1, h1, rows, es, s1, e1, l1, a1, a2, a3⟩ := bd_rows fts V len hlen ih ρ h hs
  let k : Blk := { es := es, esz := fts.length, fam := h1.next, org := 0, solo := false, last := false, ro := true }
  obtain ⟨l, hlz, hlro, ho, hpl⟩ : ∃ l : Loc, l.esz = fts.length ∧ l.ro = true ∧ RelO ρ1 l (.cells k) W.heap[l.mb]? ∧ (a = addrAt l 0 0 ∨ (len = 0 ∧ cap = 0)) := by
   by_cases hc : cap = 0
   ·obtain ⟨b, c, t, fr, hbk⟩ := hd
    have hes : es = [] := List.eq_nil_of_length_eq_zero (by omega)
    refine ⟨⟨b, 0, fts.length, c.size, true⟩, rfl, rfl, ?_, .inr ⟨by omega, hc⟩⟩
    show RelO ρ1 _ _ W.heap[b]?
    rw [hbk]
    exact .cells k c t fr (fun e => by cases e) rfl rfl h0 (by simp [k, hes]) (fun e => by cases e) (fun i cs hcs => by simp [k, hes] at hcs)
   ·obtain ⟨c, t, fr, hbk, hspot, hoff, hat⟩ := hE (by omega)
    refine ⟨⟨a.block, a.off, fts.length, c.size, true⟩, rfl, rfl, ?_, .inl (by cases a; simp_all [addrAt])⟩
    show RelO ρ1 _ _ W.heap[a.block]?
    rw [hbk]
    refine .cells k c t fr (fun e => by cases e) rfl rfl h0 (by simpa [k, a2] using hoff) (fun e => by cases e) (fun i cs hcs => ?_)
    have hi : i < len := by rw [← a2]; exact (List.getElem?_eq_some_iff.1 hcs).1
    have hrow : rows[i]? = some (rows[i]'(by omega)) := List.getElem?_eq_getElem _
    obtain ⟨q1, q2, q3⟩ := a3 i _ cs hrow hcs
    refine ⟨q1.lenv, q3, fun j v hv => ?_⟩
    obtain ⟨mv, hmv, hrel⟩ := q2.at hv
    have hj : j < fts.length := by rw [← q1.lenv]; exact (List.getElem?_eq_some_iff.1 hv).1
    exact ⟨mv, by rw [hat i j hi hj]; exact hmv, hrel⟩
  obtain ⟨s2, l2, e2⟩ := s1.push l k rfl rfl rfl rfl ho
  have hgk : (h1.push (.cells k)).get h1.next = some (.cells k) := by rw [VHeap.get_push, if_pos rfl]
  refine ⟨ρ1.add h1.next l, h1.push (.cells k), .row rows, .slice h1.next 0 rows.length none fts.length, s2, fun b o hb => e2 b o (e1 b o hb), l1.trans l2, ?_, ?_, rfl⟩
  ·refine .row bytes fts rows h1.next k hgk rfl rfl h0 (by simp [k, a1, a2]) (by rw [a1]; exact hb) (fun i r cs hri hci => ?_) fun i r cs hri hci => ?_
   ·obtain ⟨q1, _, _⟩ := a3 i r cs hri hci
    exact ⟨q1.len, q1.lenv⟩
   ·obtain ⟨q1, _, _⟩ := a3 i r cs hri hci
    exact fun j ft d v x y z => (q1.at_ j ft d v x y z).mono e2
  ·rw [a1]
   exact .slice h1.next 0 len none fts.length l a cap (by simp [Ren.add]) hlz hl hm (fun _ e => by cases e) (fun _ e => by rw [hlro] at e; cases e) hpl
end Go.Proofs.Ythlbahcggmbfaaa.V

namespace Go.Proofs.Ythlbahcggmbfaaa.V
open Go.RowKit Go.ChangeShapes Go.WideShapes Go.ChangeAt
inductive HasArgs (P : Program) (g : Nat → Option VObj) : List TypeId → List (List D) → List VV → Prop
 | nil : HasArgs P g [] [] []
 | cons (t : TypeId) (ts : List TypeId) (fts : List FT) (ds : List D) (dss : List (List D)) (xs : List VV) (v : VV) (vs : List VV) (hf : flat P 20 t = some fts) (hx : HasL g fts ds xs) (hv : fromCells P t xs = some v) (hr : HasArgs P g ts dss vs) :
   HasArgs P g (t :: ts) (ds :: dss) (v :: vs)
structure Still (h : VHeap) : Prop where
 wf : WF h.get h.next
 ro : ∀ b o, h.get b = some o → ∃ k, o = .cells k ∧ k.ro = true ∧ k.solo = false ∧ k.last = false
def Law (P : Program) (f : FuncId) (ts : List TypeId) : Prop :=
 ∀ (h : VHeap) (dss : List (List D)) (args : List VV), Still h → HasArgs P h.get ts dss args → ∃ h', SoundF P f args h (.bool true) h'
section
variable {H : Type} {enc : TypeId × Value → H} {P : Program}
theorem cells_block {W : World} (h : W.ShapedOpen P) : ∃ (b : Nat) (c : Array Value) (t : TypeId) (fr : Nat × Nat), W.heap[b]? = some (Obj.cells c t fr) := by
 have hk : (begin P (fun _ _ => 0) default).world.heap[P.globals.size]? = some (.cells ((Array.range P.types.size).map fun t => .int .u64 (Int.ofNat t)) 0) := by
  have key : ∀ (A : Array Obj) (x a b c d : Obj), (((((A.push x).push a).push b).push c).push d)[A.size]? = some x := by
   intro A x a b c d
   rw [Array.getElem?_push, if_neg (by simp; omega), Array.getElem?_push, if_neg (by simp; omega), Array.getElem?_push, if_neg (by simp; omega), Array.getElem?_push, if_neg (by simp), Array.getElem?_push, if_pos rfl]
  unfold begin
  refine Eq.trans (congrArg (fun n => _[n]?) ?_) (key _ _ _ _ _ _)
  simp
 have hlt : P.globals.size < (begin P (fun _ _ => 0) default).world.heap.size := (Array.getElem?_eq_some_iff.1 hk).1
 obtain ⟨o, o0, h1, h2, h3⟩ := h.2 P.globals.size (Nat.le_refl _) hlt
 rw [hk] at h2
 simp only [Option.some.injEq] at h2
 subst h2
 simp only [Nat.sub_self, World.looseAt] at h3
 exact ⟨P.globals.size, _, _, _, by rw [h1, show o = _ by simpa using h3]⟩
theorem back_all (hl : laidOutB P = true) {W W' : World} (bel : Below W.heap.size W W') : ∀ (ts : List TypeId) (vs : List Value) (ds : List (DataW H)) (p : List MemPlace), (∀ t ∈ ts, P.readableRec t = true ∧ t < P.types.size) →
  DataW.TrodAll enc P W 0 (fun _ => true) true ts vs ds p → DataW.TrodAll enc P W' 0 (fun b => decide (b < W.heap.size)) true ts vs ds p
 | [], [], [], _, _, h => h
 | t :: ts, v :: vs, d :: ds, p, hts, h => by
  obtain ⟨p1, q1, h1, h2, rfl⟩ := h
  obtain ⟨hr, hrow⟩ := hts t (List.mem_cons_self ..)
  have hlt : ∀ x ∈ p1, x.block < W.heap.size := by
   obtain ⟨m, hm⟩ := h1
   exact DataW.trod_lt m _ _ _ hm
  exact ⟨p1, q1, Below.trod hl hr hrow h1 bel hlt, back_all hl bel ts vs ds q1 (fun t ht => hts t (List.mem_cons_of_mem _ ht)) h2, rfl⟩
 | [], _ :: _, _, _, _, h => by simp [DataW.TrodAll] at h
 | [], [], _ :: _, _, _, h => by simp [DataW.TrodAll] at h
 | _ :: _, [], _, _, _, h => by simp [DataW.TrodAll] at h
 | _ :: _, _ :: _, [], _, _, h => by simp [DataW.TrodAll] at h
theorem arg_one {W : World} {t : TypeId} {v : Value} {fts : List FT} {cs : List Value} (hf : flat P 20 t = some fts) {base : Nat} (hok : Value.okWide P W .any base t v) (hcs : cs = v.cells.toList)
  {ρ : Ren} {xs : List VV} (hx : RelL ρ xs cs) (hlen : xs.length = fts.length) : ∃ x, fromCells P t xs = some x ∧ RelV ρ x v := by
 subst hcs
 have plain : (∀ fs, P.underlying t ≠ some (.struct fs)) → (∃ d, P.underlying t = some d ∧ ∀ n e, d ≠ .array n e) → v.cells.toList = [v] → ∃ x, fromCells P t xs = some x ∧ RelV ρ x v := by
  rintro h1 ⟨d, hd, h2⟩ hv
  rw [hv] at hx
  obtain ⟨x, hx1, hx2⟩ := hx.at (x := xs) (i := 0) (v := xs.headD .undef) (by
   have := hx.1
   match xs, this with
   | [x], _ => rfl)
  have := hx.1
  match xs, this, hx with
  | [x], _, hx =>
   refine ⟨x, ?_, hx.head⟩
   unfold fromCells
   rw [hd]
   cases d with
   | struct fs => exact absurd hd (h1 fs)
   | array n e => exact absurd rfl (h2 n e)
   | _ => rfl
 simp only [flat] at hf
 split at hf
 ·rename_i ht
  obtain ⟨b, rfl⟩ := okWide_bool ht hok
  exact plain (by rw [ht]; intro fs e; cases e) ⟨_, ht, by intro n e h; cases h⟩ rfl
 ·rename_i k ht
  obtain ⟨b, rfl⟩ := okWide_int ht hok
  exact plain (by rw [ht]; intro fs e; cases e) ⟨_, ht, by intro n e h; cases h⟩ rfl
 ·rename_i ht
  obtain ⟨b, rfl⟩ := okWide_string ht hok
  exact plain (by rw [ht]; intro fs e; cases e) ⟨_, ht, by intro n e h; cases h⟩ rfl
 ·rename_i e ht
  obtain ⟨a, len, cap, rfl⟩ := okWide_slice ht hok
  exact plain (by rw [ht]; intro fs e; cases e) ⟨_, ht, by intro n e h; cases h⟩ rfl
 ·rename_i fs ht
  obtain ⟨cs, rfl, _⟩ := okWide_struct ht hok
  refine ⟨.agg xs, by unfold fromCells; rw [ht], RelV.of_agg ?_⟩
  simpa [Value.cells] using hx
 ·cases hf
theorem args_all {W : World} (hd : ∃ (b : Nat) (c : Array Value) (t : TypeId) (fr : Nat × Nat), W.heap[b]? = some (Obj.cells c t fr)) {base : Nat} : ∀ (ts : List TypeId) (vs : List Value) (ds : List (DataW H)) (p : List MemPlace),
  (∀ t ∈ ts, (flat P 20 t).isSome = true) → (∀ (j : Nat) t v, ts[j]? = some t → vs[j]? = some v → Value.okWide P W .any base t v) → DataW.TrodAll enc P W 0 (fun _ => true) true ts vs ds p →
  (∀ m ∈ DataW.weightsEach P ts ds, m ≤ reachBytes) → ∀ ρ h, St W ρ h → ∃ ρ' h' dss xs, St W ρ' h' ∧ VExt h h' ∧ Ren.le ρ ρ' ∧ HasArgs P h'.get ts dss xs ∧ RelL ρ' xs vs
 | [], [], [], _, _, _, _, _, ρ, h, hs => ⟨ρ, h, [], [], hs, fun _ _ h => h, Ren.le.refl ρ, .nil, RelL.nil ρ⟩
 | t :: ts, v :: vs, d :: ds, p, hfl, hok, ht, hw, ρ, h, hs => by
  obtain ⟨p1, q1, ⟨fuel, h1⟩, h2, rfl⟩ := ht
  obtain ⟨fts, hfts⟩ := Option.isSome_iff_exists.1 (hfl t (List.mem_cons_self ..))
  have hR := trod_reads 20 fuel t _ d p1 fts hfts h1 (fun m hm => hw m (by simp only [DataW.weightsEach, List.mem_append]; exact .inl hm))
  obtain ⟨ρ1, h1', dd, xs, s1, e1, l1, k1, r1, _⟩ := bd_list fts v.cells.toList hR.1 (fun j ft v a b => bd_reads hd (hR.2 j ft v a b)) ρ h hs
  obtain ⟨x, hx1, hx2⟩ := arg_one hfts (hok 0 t v rfl rfl) rfl r1 k1.lenv
  obtain ⟨ρ2, h2', dss, xss, s2, e2, l2, k2, r2⟩ := args_all hd ts vs ds q1 (fun t ht => hfl t (List.mem_cons_of_mem _ ht)) (fun j t v a b => hok (j + 1) t v (by simpa using a) (by simpa using b)) h2
   (fun m hm => hw m (by simp only [DataW.weightsEach, List.mem_append]; exact .inr hm)) ρ1 h1' s1
  exact ⟨ρ2, h2', dd :: dss, x :: xss, s2, fun b o hb => e2 b o (e1 b o hb), l1.trans l2, .cons t ts fts dd dss xs x xss hfts (k1.mono e2) hx1 k2, RelL.cons (hx2.mono l2) r2⟩
 | [], _ :: _, _, _, _, _, h, _, _, _, _ => by simp [DataW.TrodAll] at h
 | [], [], _ :: _, _, _, _, h, _, _, _, _ => by simp [DataW.TrodAll] at h
 | _ :: _, [], _, _, _, _, h, _, _, _, _ => by simp [DataW.TrodAll] at h
 | _ :: _, _ :: _, [], _, _, _, h, _, _, _, _ => by simp [DataW.TrodAll] at h
theorem weights_append {ts us : List TypeId} {ds gs : List (DataW H)} (hl : ts.length = ds.length) : ∀ m ∈ DataW.weightsEach P ts ds, m ∈ DataW.weightsEach P (ts ++ us) (ds ++ gs) := by
 induction ts generalizing ds with
 | nil => cases ds with
  | nil => intro m hm; simp [DataW.weightsEach] at hm
  | cons d ds => simp at hl
 | cons t ts ih => cases ds with
  | nil => simp at hl
  | cons d ds =>
   intro m hm
   simp only [DataW.weightsEach, List.mem_append, List.cons_append] at hm ⊢
   rcases hm with hm | hm
   ·exact .inl hm
   ·exact .inr (ih (by simpa using hl) m hm)
theorem trodAll_len {W : World} {base : Nat} {sp : Nat → Bool} {hd : Bool} : ∀ (ts : List TypeId) (vs : List Value) (ds : List (DataW H)) (p : List MemPlace), DataW.TrodAll enc P W base sp hd ts vs ds p → ts.length = ds.length
 | [], [], [], _, _ => rfl
 | t :: ts, v :: vs, d :: ds, p, h => by
  obtain ⟨_, _, _, h2, _⟩ := h
  simp [trodAll_len ts vs ds _ h2]
 | [], _ :: _, _, _, h => by simp [DataW.TrodAll] at h
 | [], [], _ :: _, _, h => by simp [DataW.TrodAll] at h
 | _ :: _, [], _, _, h => by simp [DataW.TrodAll] at h
 | _ :: _, _ :: _, [], _, h => by simp [DataW.TrodAll] at h
end
theorem lift_core {H : Type} (enc : TypeId × Value → H) {C : Checked} {f : FuncId} {fn : Func} {s : ChangeSpec} {bt : TypeId}
  (hvars : s.vars = []) (hspec : ∀ ds : List (DataW H), ds.length = fn.params.size → s.fn H ds = { results := [.lit (.bool true)], args := ds, vars := [] })
  (hres : fn.resultTypes = #[bt]) (hbt : C.prog.underlying bt = some .bool) (hl : laidOutB C.prog = true) (hpar : (fn.params.toList.all fun t => C.prog.readableRec t && decide (t < C.prog.types.size) && (flat C.prog 20 t).isSome) = true)
  (law : Law C.prog f fn.params.toList) (W : World) (base : Nat) (args : Array Value) (ds gs : List (DataW H)) (before : List MemPlace)
  (hval : ∀ (j : Nat) t v, fn.params[j]? = some t → args[j]? = some v → Value.okWide C.prog W .any base t v)
  (hW : DataW.Whole enc C.prog fn.params.toList s.vars false W args.toList ds gs before)
  (hsz : (DataW.weightsEach C.prog (fn.params.toList ++ s.plain.varTypes C.prog) (ds ++ gs)).all (· ≤ reachBytes) = true) (hsh : W.ShapedOpen C.prog) (hI : seatI W) :
  Calls C.prog f args W fun e W' => ∃ v, e = .returned v ∧ s.post enc C.prog fn false true false false W args v W' := by
 have hW' := hW
 obtain ⟨p, q, hA, hV, rfl, _, _⟩ := hW
 rw [hvars] at hV
 obtain ⟨rfl, rfl⟩ := trodVars_none hV
 have hpar' : ∀ t ∈ fn.params.toList, (C.prog.readableRec t = true ∧ t < C.prog.types.size) ∧ (flat C.prog 20 t).isSome = true := fun t ht => by
  have := List.all_eq_true.1 hpar t ht
  simp only [Bool.and_eq_true, decide_eq_true_eq] at this
  exact this
 have hlen := trodAll_len _ _ _ _ hA
 have hw : ∀ m ∈ DataW.weightsEach C.prog fn.params.toList ds, m ≤ reachBytes := fun m hm => by
  have := List.all_eq_true.1 hsz m (weights_append hlen m hm)
  simpa using this
 obtain ⟨ρ, h, dss, xs, hs, _, _, hargs, hrel⟩ := args_all (cells_block hsh) fn.params.toList args.toList ds p (fun t ht => (hpar' t ht).2) (fun j t v a b => hval j t v (by simpa using a) (by simpa using b)) hA hw _ _ (St.empty W)
 obtain ⟨h', hsound⟩ := law h dss xs ⟨hs.wf, hs.ro⟩ hargs
 have hc := hsound ρ W args.toList hs.rel hs.wf hrel ⟨W, hI, Nat.le_refl _, fun _ _ => rfl, fun b l hb => by
  obtain ⟨o, ho, _⟩ := hs.rel.obj b l hb
  obtain ⟨k, rfl, hk, _⟩ := hs.ro b o ho
  exact .inr ⟨k, ho, hk⟩⟩
 rw [Array.toArray_toList] at hc
 refine hc.mono fun e W' ⟨mv, ρ', he, hstep, hmv⟩ => ?_
 cases hmv
 subst he
 have bel : Below W.heap.size W W' := ⟨hstep.os, hstep.tape, hstep.output, hstep.size, fun B hB => hstep.old B hB fun b l hb _ => by
  obtain ⟨o, ho, _⟩ := hs.rel.obj b l hb
  obtain ⟨k, rfl, hk, _⟩ := hs.ro b o ho
  exact ⟨k, ho, hk⟩⟩
 refine ⟨_, rfl, ds, [], _, [], p, [], hW', ?_, ?_, ?_, bel.frame _, fun h => by cases h⟩
 ·rw [hres, hspec _ (by simpa using hlen.symm)]
  exact trodAll_mk1 (shut_bool hbt _)
 ·rw [hspec _ (by simpa using hlen.symm)]
  simp only [List.append_nil]
  exact back_all hl bel _ _ _ _ (fun t ht => (hpar' t ht).1) hA
 ·rw [hspec _ (by simpa using hlen.symm), hvars]
  rfl
theorem lift {H : Type} (enc : TypeId × Value → H) {C : Checked} {os : Os} {f : FuncId} {fn : Func} {s : ChangeSpec} {conds : List PathCond} {bt : TypeId} (own : ownKnob C.prog.godebug = none) (started : os.Started) (noInit : C.prog.inits.idxOf? f = none) (hfn : C.prog.funcs[f]? = some fn)
  (witness : ∃ (w : World) (tape : Tape) (i : Input), w.os = os ∧ (w.forCall tape i).Shaped C.prog ∧ i.vars = [] ∧ Input.okWide C.prog (w.forCall tape i) .any w.heap.size f i ∧
   s.pre6 enc C.prog fn conds false (w.forCall tape i).memory i.args ∧ Assume.holds {} C.prog (lone (Frame.enter C.prog f i.args .normal) [] (w.forCall tape i)))
  (hvars : s.vars = []) (hspec : ∀ ds : List (DataW H), ds.length = fn.params.size → s.fn H ds = { results := [.lit (.bool true)], args := ds, vars := [] })
  (hres : fn.resultTypes = #[bt]) (hbt : C.prog.underlying bt = some .bool) (hl : laidOutB C.prog = true) (hpar : (fn.params.toList.all fun t => C.prog.readableRec t && decide (t < C.prog.types.size) && (flat C.prog 20 t).isSome) = true)
  (law : Law C.prog f fn.params.toList) (hI : ∀ W : World, W.ShapedOpen C.prog → seatI W := by exact fun _ _ => trivial) :
  ReturnsInHanded {} C os f .any (s.pre6 enc C.prog fn conds false) (s.post enc C.prog fn false true false false) := by
 refine returnsInHanded_of_change_shaped own started noInit hfn witness ?_
 exact fun W base args ds gs before hval hW _ hsz hsh _ => lift_core enc hvars hspec hres hbt hl hpar law W base args ds gs before hval hW hsz hsh (hI W hsh)
end Go.Proofs.Ythlbahcggmbfaaa.V

namespace Go.Proofs.Ythlbahcggmbfaaa.V
section
variable {P : Program} {X : Ext}
def CallerLe (c d : Caller) : Prop := ∀ f a h r, c f a h = some r → d f a h = some r
theorem vcall_mono {c d : Caller} (hc : CallerLe c d) {k : Call} {e : Env} {h : VHeap} {r : VV × VHeap} (hr : vcall P c k e h = some r) : vcall P d k e h = some r := by
 unfold vcall at hr ⊢
 split at hr
 ·split at hr
  ·split at hr
   ·rename_i hp; rw [if_pos hp]; exact hc _ _ _ _ hr
   ·cases hr
  ·cases hr
 ·split at hr
  ·split at hr
   ·split at hr
    ·rename_i hm hp; simp only [hp, if_true]; exact hc _ _ _ _ hr
    ·cases hr
   ·cases hr
  ·cases hr
 ·exact hr
theorem vop_mono {c d : Caller} (hc : CallerLe c d) {o : Oper} {e : Env} {h : VHeap} {r : VV × VHeap} (hr : vop P c o e h = some r) : vop P d o e h = some r := by
 obtain ⟨dst, op, ty, pos, after, guard⟩ := o
 cases op with
 | call k =>
  have h1 : vcall P c k e h = some r := hr
  exact vcall_mono hc h1
 | makeMap t n => cases n <;> exact hr
 | _ => exact hr
theorem vops_mono {c d : Caller} (hc : CallerLe c d) {ops : Array Oper} : ∀ {l : List Oper} {e : Env} {h : VHeap} {r : Env × VHeap}, vops P c ops l e h = some r → vops P d ops l e h = some r
 | [], _, _, _, hr => hr
 | o :: l, e, h, r, hr => by
  unfold vops at hr ⊢
  split at hr
  ·split at hr
   ·rename_i hv
    rw [vop_mono hc hv]
    exact vops_mono hc hr
   ·cases hr
  ·exact vops_mono hc hr
  ·cases hr
theorem vdraw_mono {c d : Caller} (hc : CallerLe c d) {ops : Array Oper} {bef : Array Nat} : ∀ {l : List Oper} {i : Nat} {e : Env} {h : VHeap} {rs : List (Nat × Oper × Env × VV)} {es : List (Nat × VHeap)} {r : Env × VHeap},
  vdraw P c ops bef i l e h rs es = some r → vdraw P d ops bef i l e h rs es = some r
 | [], _, _, _, _, _, _, hr => by unfold vdraw at hr ⊢; exact hr
 | o :: l, i, e, h, rs, es, r, hr => by
  unfold vdraw at hr ⊢
  split at hr
  ·cases hr
  ·exact vdraw_mono hc hr
  ·split at hr
   ·cases hr
   ·rename_i hv
    rw [vop_mono hc hv]
    simp only
    split at hr
    ·split at hr
     ·rename_i hp; rw [if_pos hp]; exact vdraw_mono hc hr
     ·cases hr
    ·split at hr
     ·rename_i hp; rw [if_pos hp]; exact vdraw_mono hc hr
     ·cases hr
    ·exact vdraw_mono hc hr
theorem vregion_mono {c d : Caller} (hc : CallerLe c d) {ops : Array Oper} {draw : Bool} {e : Env} {h : VHeap} {r : Env × VHeap} (hr : vregion P c ops draw e h = some r) : vregion P d ops draw e h = some r := by
 unfold vregion at hr ⊢
 split at hr
 ·exact vops_mono hc hr
 ·split at hr
  ·exact vdraw_mono hc hr
  ·cases hr
theorem vfun_mono {f g : Code → Env → VHeap → Option (VExit × Env × VHeap)} (hfg : ∀ c e h r, f c e h = some r → g c e h = some r) : CallerLe (vfun P f X) (vfun P g X) := by
 intro n a h r hr
 unfold vfun at hr ⊢
 split at hr
 ·exact hr
 ·split at hr
  ·split at hr
   ·split at hr
    ·rename_i hl
     rw [if_pos hl]
     split at hr
     ·rename_i hx; rw [hfg _ _ _ _ hx]; exact hr
     ·rename_i hx; rw [hfg _ _ _ _ hx]; exact hr
     ·cases hr
    ·cases hr
   ·cases hr
  ·cases hr
theorem vexec_succ : ∀ (k : Nat) (c : Code) (e : Env) (h : VHeap) (r : VExit × Env × VHeap), vexec P X k c e h = some r → vexec P X (k + 1) c e h = some r := by
 intro k
 induction k with
 | zero => intro c e h r hr; simp [vexec] at hr
 | succ k ih =>
  intro c e h r hr
  unfold vexec at hr ⊢
  cases c with
  | skip => exact hr
  | label _ => exact hr
  | region _ ops draw =>
   simp only at hr ⊢
   split at hr
   ·rename_i hx; rw [vregion_mono (vfun_mono ih) hx]; exact hr
   ·cases hr
  | seq a b =>
   simp only at hr ⊢
   split at hr
   ·rename_i hx; rw [ih _ _ _ _ hx]; exact ih _ _ _ _ hr
   ·rename_i hx
    rw [ih _ _ _ _ hr]
    split
    ·rename_i h2
     exact absurd (h2 ▸ hr) (by intro h3; exact hx _ _ h3)
    ·rfl
  | cond q a b =>
   simp only at hr ⊢
   split at hr
   ·exact ih _ _ _ _ hr
   ·exact ih _ _ _ _ hr
   ·cases hr
  | block id b =>
   simp only at hr ⊢
   split at hr
   ·rename_i hx; rw [ih _ _ _ _ hx]; exact hr
   ·rename_i hx
    rw [ih _ _ _ _ hr]
    split
    ·rename_i h2
     exact absurd (h2 ▸ hr) (by intro h3; exact hx _ _ _ h3)
    ·rfl
  | loop b =>
   simp only at hr ⊢
   split at hr
   ·rename_i hx; rw [ih _ _ _ _ hx]; exact ih _ _ _ _ hr
   ·rename_i hx
    rw [ih _ _ _ _ hr]
    split
    ·rename_i h2
     exact absurd (h2 ▸ hr) (by intro h3; exact hx _ _ h3)
    ·rfl
  | exit id => exact hr
  | ret => exact hr
  | _ => exact hr
theorem vexec_le {k j : Nat} (hkj : k ≤ j) {c : Code} {e : Env} {h : VHeap} {r : VExit × Env × VHeap} (hr : vexec P X k c e h = some r) : vexec P X j c e h = some r := by
 induction hkj with
 | refl => exact hr
 | step _ ih => exact vexec_succ _ _ _ _ _ ih
theorem caller_le {k j : Nat} (hkj : k ≤ j) : CallerLe (vfun P (vexec P X k) X) (vfun P (vexec P X j) X) := vfun_mono fun _ _ _ _ h => vexec_le hkj h
end
section
variable (P : Program) (X : Ext)
def WP (c : Code) (e : Env) (h : VHeap) (Q : VExit → Env → VHeap → Prop) : Prop := ∃ k x e' h', vexec P X k c e h = some (x, e', h') ∧ Q x e' h'
def VC (f : FuncId) (args : List VV) (h : VHeap) (Q : VV → VHeap → Prop) : Prop := ∃ k v h', vrun P X k f args h = some (v, h') ∧ Q v h'
def WO (o : Oper) (e : Env) (h : VHeap) (Q : VV → VHeap → Prop) : Prop := ∃ k v h', vop P (vfun P (vexec P X k) X) o e h = some (v, h') ∧ Q v h'
def WS (ops : Array Oper) (l : List Oper) (e : Env) (h : VHeap) (Q : Env → VHeap → Prop) : Prop := ∃ k e' h', vops P (vfun P (vexec P X k) X) ops l e h = some (e', h') ∧ Q e' h'
def WD (ops : Array Oper) (bef : Array Nat) (i : Nat) (l : List Oper) (e : Env) (h : VHeap) (rs : List (Nat × Oper × Env × VV)) (es : List (Nat × VHeap)) (Q : Env → VHeap → Prop) : Prop :=
 ∃ k e' h', vdraw P (vfun P (vexec P X k) X) ops bef i l e h rs es = some (e', h') ∧ Q e' h'
end
section
variable {P : Program} {X : Ext}
theorem WP.mono {c : Code} {e : Env} {h : VHeap} {Q R : VExit → Env → VHeap → Prop} (hw : WP P X c e h Q) (hq : ∀ x e h, Q x e h → R x e h) : WP P X c e h R := by
 obtain ⟨k, x, e', h', a, b⟩ := hw
 exact ⟨k, x, e', h', a, hq _ _ _ b⟩
theorem VC.mono {f : FuncId} {args : List VV} {h : VHeap} {Q R : VV → VHeap → Prop} (hw : VC P X f args h Q) (hq : ∀ v h, Q v h → R v h) : VC P X f args h R := by
 obtain ⟨k, v, h', a, b⟩ := hw
 exact ⟨k, v, h', a, hq _ _ b⟩
theorem WP.skip {e : Env} {h : VHeap} {Q : VExit → Env → VHeap → Prop} (hq : Q .normal e h) : WP P X .skip e h Q := ⟨1, _, _, _, rfl, hq⟩
theorem WP.label {n : Nat} {e : Env} {h : VHeap} {Q : VExit → Env → VHeap → Prop} (hq : Q .normal e h) : WP P X (.label n) e h Q := ⟨1, _, _, _, rfl, hq⟩
theorem WP.exit {n : Nat} {e : Env} {h : VHeap} {Q : VExit → Env → VHeap → Prop} (hq : Q (.exit n) e h) : WP P X (.exit n) e h Q := ⟨1, _, _, _, rfl, hq⟩
theorem WP.ret {e : Env} {h : VHeap} {Q : VExit → Env → VHeap → Prop} (hq : Q .ret e h) : WP P X .ret e h Q := ⟨1, _, _, _, rfl, hq⟩
def Then (Q : VExit → Env → VHeap → Prop) (next : Env → VHeap → Prop) : VExit → Env → VHeap → Prop
 | .normal, e, h => next e h
 | x, e, h => Q x e h
theorem WP.seq {a b : Code} {e : Env} {h : VHeap} {Q : VExit → Env → VHeap → Prop} (hw : WP P X a e h (Then Q fun e h => WP P X b e h Q)) : WP P X (.seq a b) e h Q := by
 obtain ⟨k, x, e1, h1, r1, q1⟩ := hw
 cases x with
 | normal =>
  obtain ⟨j, x, e2, h2, r2, q2⟩ := q1
  refine ⟨max k j + 1, x, e2, h2, ?_, q2⟩
  unfold vexec
  simp only [vexec_le (Nat.le_max_left k j) r1, vexec_le (Nat.le_max_right k j) r2]
 | exit n => exact ⟨k + 1, _, e1, h1, by unfold vexec; simp only [r1], q1⟩
 | ret => exact ⟨k + 1, _, e1, h1, by unfold vexec; simp only [r1], q1⟩
theorem WP.cond {c : Operand} {a b : Code} {e : Env} {h : VHeap} {Q : VExit → Env → VHeap → Prop} (t : Bool) (hc : ev e c = .bool t) (ha : t = true → WP P X a e h Q) (hb : t = false → WP P X b e h Q) : WP P X (.cond c a b) e h Q := by
 cases t with
 | true =>
  obtain ⟨k, x, e1, h1, r1, q1⟩ := ha rfl
  exact ⟨k + 1, x, e1, h1, by unfold vexec; simp only [hc, r1], q1⟩
 | false =>
  obtain ⟨k, x, e1, h1, r1, q1⟩ := hb rfl
  exact ⟨k + 1, x, e1, h1, by unfold vexec; simp only [hc, r1], q1⟩
def Out (id : Nat) (Q : VExit → Env → VHeap → Prop) : VExit → Env → VHeap → Prop
 | .exit n, e, h => match Nat.beq n id with
  | true => Q .normal e h
  | false => Q (.exit n) e h
 | x, e, h => Q x e h
theorem WP.block {id : Nat} {c : Code} {e : Env} {h : VHeap} {Q : VExit → Env → VHeap → Prop} (hw : WP P X c e h (Out id Q)) : WP P X (.block id c) e h Q := by
 obtain ⟨k, x, e1, h1, r1, q1⟩ := hw
 cases x with
 | normal => exact ⟨k + 1, _, e1, h1, by unfold vexec; simp only [r1], q1⟩
 | ret => exact ⟨k + 1, _, e1, h1, by unfold vexec; simp only [r1], q1⟩
 | exit n =>
  unfold Out at q1
  simp only at q1
  cases hb : Nat.beq n id with
  | true => rw [hb] at q1; exact ⟨k + 1, _, e1, h1, by unfold vexec; simp only [r1, hb], q1⟩
  | false => rw [hb] at q1; exact ⟨k + 1, _, e1, h1, by unfold vexec; simp only [r1, hb], q1⟩
theorem WP.loop1 {c : Code} {e : Env} {h : VHeap} {Q : VExit → Env → VHeap → Prop} (hw : WP P X c e h (Then Q fun e h => WP P X (.loop c) e h Q)) : WP P X (.loop c) e h Q := by
 obtain ⟨k, x, e1, h1, r1, q1⟩ := hw
 cases x with
 | normal =>
  obtain ⟨j, x, e2, h2, r2, q2⟩ := q1
  refine ⟨max k j + 1, x, e2, h2, ?_, q2⟩
  unfold vexec
  simp only [vexec_le (Nat.le_max_left k j) r1, vexec_le (Nat.le_max_right k j) r2]
 | exit n => exact ⟨k + 1, _, e1, h1, by unfold vexec; simp only [r1], q1⟩
 | ret => exact ⟨k + 1, _, e1, h1, by unfold vexec; simp only [r1], q1⟩
theorem WP.loop {c : Code} {Q : VExit → Env → VHeap → Prop} (I : Nat → Env → VHeap → Prop)
  (hI : ∀ n e h, I n e h → WP P X c e h (Then Q fun e h => ∃ m, m < n ∧ I m e h)) : ∀ n e h, I n e h → WP P X (.loop c) e h Q := by
 intro n
 induction n using Nat.strongRecOn with
 | ind n ih =>
  intro e h hi
  refine WP.loop1 ((hI n e h hi).mono fun x e h hq => ?_)
  cases x with
  | normal => obtain ⟨m, hm, hi⟩ := hq; exact ih m hm e h hi
  | exit n => exact hq
  | ret => exact hq
theorem WP.region {p : Nat} {ops : Array Oper} {e : Env} {h : VHeap} {Q : VExit → Env → VHeap → Prop} (hw : WS P X ops ops.toList e h fun e h => Q .normal e h) : WP P X (.region p ops false) e h Q := by
 obtain ⟨k, e1, h1, r1, q1⟩ := hw
 exact ⟨k + 1, _, e1, h1, by unfold vexec; simp only [vregion, r1], q1⟩
theorem WP.draw {p : Nat} {ops : Array Oper} {e : Env} {h : VHeap} {Q : VExit → Env → VHeap → Prop} (hd : drawOK P ops = true) (hw : WD P X ops (Region.before ops) 0 ops.toList e h [] [] fun e h => Q .normal e h) : WP P X (.region p ops true) e h Q := by
 obtain ⟨k, e1, h1, r1, q1⟩ := hw
 exact ⟨k + 1, _, e1, h1, by unfold vexec; simp only [vregion, hd, r1], q1⟩
theorem WS.nil {ops : Array Oper} {e : Env} {h : VHeap} {Q : Env → VHeap → Prop} (hq : Q e h) : WS P X ops [] e h Q := ⟨0, e, h, rfl, hq⟩
theorem WS.cons {ops : Array Oper} {o : Oper} {l : List Oper} {e : Env} {h : VHeap} {Q : Env → VHeap → Prop} (hg : wantedV ops o e = some true) (hw : WO P X o e h fun v h => WS P X ops l (e.put o.dst v) h Q) : WS P X ops (o :: l) e h Q := by
 obtain ⟨k, v, h1, r1, j, e2, h2, r2, q2⟩ := hw
 refine ⟨max k j, e2, h2, ?_, q2⟩
 unfold vops
 simp only [hg, vop_mono (caller_le (Nat.le_max_left k j)) r1, vops_mono (caller_le (Nat.le_max_right k j)) r2]
theorem WS.skip {ops : Array Oper} {o : Oper} {l : List Oper} {e : Env} {h : VHeap} {Q : Env → VHeap → Prop} (hg : wantedV ops o e = some false) (hw : WS P X ops l (e.put o.dst skipped) h Q) : WS P X ops (o :: l) e h Q := by
 obtain ⟨k, e1, h1, r1, q1⟩ := hw
 exact ⟨k, e1, h1, by unfold vops; simp only [hg, r1], q1⟩
theorem WO.of {o : Oper} {e : Env} {h h' : VHeap} {v : VV} {Q : VV → VHeap → Prop} (hr : vop P (fun _ _ _ => none) o e h = some (v, h')) (hq : Q v h') : WO P X o e h Q :=
 ⟨0, v, h', vop_mono (fun _ _ _ _ h => by cases h) hr, hq⟩
theorem WO.call {o : Oper} {c : Call} (ho : o.op = .call c) {f : Operand} (hc : c.callee = .value f) {g : FuncId} {first caps : List VV} {e : Env} {h : VHeap} (hf : ev e f = .func (.func g) first caps) (hp : plainFunc P g = true) {Q : VV → VHeap → Prop}
  (hw : VC P X g (first ++ argsOf e c.args ++ caps) h Q) : WO P X o e h Q := by
 obtain ⟨k, v, h1, r1, q1⟩ := hw
 refine ⟨k, v, h1, ?_, q1⟩
 obtain ⟨dst, op, ty, pos, after, guard⟩ := o
 ·simp only at ho
  subst ho
  show vcall P _ c e h = _
  unfold vcall
  rw [hc]
  simp only [hf, hp, if_true]
  exact r1
theorem VC.of {f : FuncId} {fn : Func} {c : Code} {args : List VV} {h : VHeap} {Q : VV → VHeap → Prop} (hX : X f = none) (hf : P.funcs[f]? = some fn) (hc : fn.body = some c) (hl : args.length ≤ fn.ntmps)
  (hw : WP P X c args h fun x e h => (match x with | .exit _ => False | _ => True) ∧ ∃ v, vresults P fn e h = some v ∧ Q v h) : VC P X f args h Q := by
 obtain ⟨k, x, e1, h1, r1, hx, v, r2, q2⟩ := hw
 refine ⟨k, v, h1, ?_, q2⟩
 unfold vrun vfun
 simp only [hX, hf, hc, if_pos hl, r1]
 cases x with
 | normal => simp only [r2]; rfl
 | ret => simp only [r2]; rfl
 | exit n => exact hx.elim
theorem VC.told {f : FuncId} {g : List VV → VHeap → Option (VV × VHeap)} {args : List VV} {h h' : VHeap} {v : VV} {Q : VV → VHeap → Prop} (hX : X f = some g) (hg : g args h = some (v, h')) (hq : Q v h') : VC P X f args h Q :=
 ⟨0, v, h', by unfold vrun vfun; simp only [hX, hg], hq⟩
end
end Go.Proofs.Ythlbahcggmbfaaa.V

namespace Go.Proofs.Ythlbahcggmbfaaa.V
def noCall : Caller := fun _ _ _ => none
section
variable {P : Program} {X : Ext}
theorem WS.pre (n : Nat) {ops : Array Oper} {l : List Oper} {e e1 : Env} {h h1 : VHeap} {Q : Env → VHeap → Prop} (hr : vops P noCall ops (l.take n) e h = some (e1, h1)) (hw : WS P X ops (l.drop n) e1 h1 Q) : WS P X ops l e h Q := by
 induction n generalizing l e h with
 | zero =>
  simp only [List.take_zero, vops, Option.some.injEq, Prod.mk.injEq] at hr
  obtain ⟨rfl, rfl⟩ := hr
  exact hw
 | succ n ih =>
  cases l with
  | nil =>
   simp only [List.take_nil, vops, Option.some.injEq, Prod.mk.injEq] at hr
   obtain ⟨rfl, rfl⟩ := hr
   exact hw
  | cons o l =>
   simp only [List.take_succ_cons, vops] at hr
   simp only [List.drop_succ_cons] at hw
   split at hr
   ·rename_i hg
    split at hr
    ·rename_i hv
     exact WS.cons hg (WO.of hv (ih hr hw))
    ·cases hr
   ·rename_i hg
    exact WS.skip hg (ih hr hw)
   ·cases hr
theorem WP.plain {p : Nat} {ops : Array Oper} {e e1 : Env} {h h1 : VHeap} {Q : VExit → Env → VHeap → Prop} (hr : vops P noCall ops ops.toList e h = some (e1, h1)) (hq : Q .normal e1 h1) : WP P X (.region p ops false) e h Q :=
 WP.region (WS.pre ops.toList.length (by rw [List.take_length]; exact hr) (by rw [List.drop_length]; exact WS.nil hq))
variable {call : Caller} {dst : Option Tmp} {ty : TypeId} {pos : String} {after : Array Edge} {guard : Option (Nat × Bool)} {e : Env} {h : VHeap}
theorem op_pick (c a b : Operand) : vop P call ⟨dst, .pick c a b, ty, pos, after, guard⟩ e h = (match ev e c with | .bool true => some (ev e a, h) | .bool false => some (ev e b, h) | _ => none) := rfl
theorem op_alloc (t : TypeId) : vop P call ⟨dst, .alloc t, ty, pos, after, guard⟩ e h = (match vzero P t with | some z => if P.cellsOf t = 0 then none else some (.ptr h.next 0 0, fresh h [vcells z] (P.cellsOf t)) | none => none) := rfl
theorem op_box (t : TypeId) (x : Operand) : vop P call ⟨dst, .box t x, ty, pos, after, guard⟩ e h =
  (if (vcells (ev e x)).length = P.cellsOf t ∧ P.cellsOf t ≠ 0 ∧ (vcells (ev e x)).all oneCell then some (.ptr h.next 0 0, fresh h [vcells (ev e x)] (P.cellsOf t)) else none) := rfl
theorem op_build (t : TypeId) (parts : Array (Nat × Operand)) : vop P call ⟨dst, .build t parts, ty, pos, after, guard⟩ e h = (vbuild P t (parts.toList.map fun (i, x) => (i, ev e x))).map fun v => (v, h) := rfl
theorem op_buildSlice (t : TypeId) (len : Nat) (parts : Array (Nat × Operand)) : vop P call ⟨dst, .buildSlice t len parts, ty, pos, after, guard⟩ e h = vbuildSlice P t len (parts.toList.map fun (i, x) => (i, ev e x)) h := rfl
theorem op_load (t : TypeId) (a : Operand) : vop P call ⟨dst, .load t a, ty, pos, after, guard⟩ e h = (vload P t h (ev e a)).map fun v => (v, h) := rfl
theorem op_store (t : TypeId) (a x : Operand) : vop P call ⟨dst, .store t a x, ty, pos, after, guard⟩ e h = (vstore P t h (ev e a) (ev e x)).map fun h' => (.undef, h') := rfl
theorem op_nilCheck (x : Operand) : vop P call ⟨dst, .nilCheck x, ty, pos, after, guard⟩ e h = (match ev e x with
  | .ptr b i f => some (.ptr b i f, h) | .iface t v => some (.iface t v, h) | .func (.func g) first caps => some (.func (.func g) first caps, h) | _ => none) := rfl
theorem op_binOp (op : BinOp) (t : TypeId) (x y : Operand) (u : TypeId) : vop P call ⟨dst, .binOp op t x y u, ty, pos, after, guard⟩ e h = (vbin P op t x y (ev e x) (ev e y)).map fun v => (v, h) := rfl
theorem op_unOp (op : UnOp) (t : TypeId) (x : Operand) : vop P call ⟨dst, .unOp op t x, ty, pos, after, guard⟩ e h = (vun op (ev e x)).map fun v => (v, h) := rfl
theorem op_convert (s d : TypeId) (x : Operand) : vop P call ⟨dst, .convert s d x, ty, pos, after, guard⟩ e h = (match P.underlying s, P.underlying d with
  | some (.slice _), some .string => (vconvRead P s d (ev e x) h).map fun v => (v, h)
  | some .string, some (.slice _) => vconvNew P s d (ev e x) h
  | _, _ => (vconv P s d (ev e x)).map fun v => (v, h)) := rfl
theorem op_slice (t : TypeId) (x : Operand) (lo hi mx : Option Operand) : vop P call ⟨dst, .slice t x lo hi mx, ty, pos, after, guard⟩ e h = (match P.underlying t, ev e x with
  | some .string, .str s => (vslice 0 (.str s) (lo.map (ev e)) (hi.map (ev e)) (mx.map (ev e))).map fun v => (v, h)
  | some (.slice el), .slice b i n c z => if P.cellsOf el = 0 then none else (vslice (P.cellsOf el) (.slice b i n c z) (lo.map (ev e)) (hi.map (ev e)) (mx.map (ev e))).map fun v => (v, h)
  | some (.slice el), .nilslice => if P.cellsOf el = 0 then none else (vslice (P.cellsOf el) .nilslice (lo.map (ev e)) (hi.map (ev e)) (mx.map (ev e))).map fun v => (v, h)
  | _, _ => none) := rfl
theorem op_fieldAddr (s : TypeId) (x : Operand) (f : Nat) : vop P call ⟨dst, .fieldAddr s x f, ty, pos, after, guard⟩ e h = (match P.underlying s, ev e x with
  | some (.struct fs), .ptr b i g => match fs[f]? with
   | some fd => if P.cellsOf fd.type = 0 then none else some (.ptr b i (g + fd.offset), h)
   | none => none
  | _, _ => none) := rfl
theorem op_field (s : TypeId) (x : Operand) (f : Nat) : vop P call ⟨dst, .field s x f, ty, pos, after, guard⟩ e h = (match P.underlying s, ev e x with
  | some (.struct fs), .agg cs => match fs[f]? with
   | some fd => (vpart P fd.type cs fd.offset).map fun v => (v, h)
   | none => none
  | _, _ => none) := rfl
theorem op_indexAddr (t : TypeId) (x ix : Operand) : vop P call ⟨dst, .indexAddr t x ix, ty, pos, after, guard⟩ e h = (match P.underlying t, ev e x, natOf (ev e ix) with
  | some (.slice el), .slice b i n _ z, some j => if j < n ∧ P.cellsOf el = z ∧ z ≠ 0 then some (.ptr b (i + j) 0, h) else none
  | some (.array n el), .ptr b i f, some j => if j < n ∧ P.cellsOf el ≠ 0 then some (.ptr b i (f + j * P.cellsOf el), h) else none
  | _, _, _ => none) := rfl
theorem op_extract (x : Operand) (i : Nat) : vop P call ⟨dst, .extract x i, ty, pos, after, guard⟩ e h = (match ev e x with
  | .tuple vs => match vs[i]? with | some v => some (v, h) | none => none
  | _ => none) := rfl
end
end Go.Proofs.Ythlbahcggmbfaaa.V

namespace Go.Proofs.Ythlbahcggmbfaaa.V
def natsEq : List Nat → List Nat → Bool
 | [], [] => true
 | a :: x, b :: y => Nat.beq a b && natsEq x y
 | _, _ => false
mutual
def FT.same : FT → FT → Bool
 | .bool, .bool => true
 | .int j, .int k => decide (j = k)
 | .str, .str => true
 | .row a x, .row b y => Nat.beq a b && FT.sames x y
 | .ptr x, .ptr y => FT.sames x y
 | .ifc t x, .ifc u y => natsEq t u && FT.sames x y
 | _, _ => false
def FT.sames : List FT → List FT → Bool
 | [], [] => true
 | a :: x, b :: y => FT.same a b && FT.sames x y
 | _, _ => false
end
inductive UV where
 | undef
 | bool (b : Bool)
 | int (k : IntKind) (n : Int)
 | str (s : ByteArray)
 | nilptr
 | ptr (o f : Nat)
 | eptr (o i f : Nat)
 | aptr (fts : List FT) (o g n j f : Nat)
 | fptr (fts : List FT) (es : List (List D)) (i f : Nat)
 | nilslice
 | own (o : Nat)
 | fz (fts : List FT) (es : List (List D)) (cut : Bool)
 | nn (fts : List FT) (es : List (List D))
 | nilmap
 | map (o : Nat)
 | nilfunc
 | func (f : FuncId)
 | pz (fts : List FT) (d : D)
 | pn (fts : List FT) (ds : List D) (f : Nat)
 | ifz (ts : List Nat) (fts : List FT) (d : D)
 | niliface
 | pown (o : Nat)
 | pe (o i : Nat)
 | pp (o i : Nat)
 | iface (t : TypeId) (v : UV)
 | agg (cs : List UV)
 | tuple (vs : List UV)
 deriving Inhabited
inductive UO where
 | obj (cs : List UV)
 | row (fts : List FT) (es : List (List D))
 | old (fts : List FT) (es : List (List D))
 | map (kf : FT) (ag : Bool) (fts : List FT) (es : List (D × List D))
 | pool (fts : List FT) (es : List (List D)) (x : Option Nat)
 | lent
 | gone
abbrev USt := List UO
abbrev UEnv := List UV
def UEnv.get : UEnv → Nat → UV
 | [], _ => .undef
 | v :: _, 0 => v
 | _ :: e, n + 1 => UEnv.get e n
def UEnv.set : UEnv → Nat → UV → UEnv
 | [], 0, v => [v]
 | [], n + 1, v => .undef :: UEnv.set [] n v
 | _ :: e, 0, v => v :: e
 | x :: e, n + 1, v => x :: UEnv.set e n v
def UEnv.put (e : UEnv) (d : Option Tmp) (v : UV) : UEnv := match d with | some t => UEnv.set e t v | none => e
def USt.get : USt → Nat → UO
 | [], _ => .gone
 | v :: _, 0 => v
 | _ :: e, n + 1 => USt.get e n
def USt.upd : USt → Nat → UO → USt
 | [], _, _ => []
 | _ :: e, 0, v => v :: e
 | x :: e, n + 1, v => x :: USt.upd e n v
def USt.len : USt → Nat
 | [] => 0
 | _ :: e => Nat.succ (USt.len e)
def USt.push : USt → UO → USt
 | [], o => [o]
 | x :: e, o => x :: USt.push e o
def D.toInt : D → Int | .int n => n | _ => 0
def D.toBool : D → Bool | .bool b => b | _ => false
def D.toStr : D → ByteArray | .str s => s | _ => .empty
def D.toRows : D → List (List D) | .row es => es | _ => []
def cell (j : Nat) (ds : List D) : D := ds.getD j .nil
def elem (i : Nat) (es : List (List D)) : List D := es.getD i []
def putAt (es : List (List D)) (i f : Nat) (ds : List D) : List (List D) := es.set i ((elem i es).take f ++ ds ++ (elem i es).drop (f + ds.length))
def ofN (n : Nat) : Int := n
def strEq (x y : ByteArray) : Bool := x.toList == y.toList
def strLt (x y : ByteArray) : Bool := Op.bytesLess x.toList y.toList
def bytesD (s : ByteArray) : List (List D) := s.data.toList.map fun c => [.int c.toNat]
def byteOf (r : List D) : UInt8 := UInt8.ofNat (cell 0 r).toInt.toNat
def strOf (es : List (List D)) : ByteArray := ⟨(es.map byteOf).toArray⟩
def byteAt (s : ByteArray) (i : Nat) : Int := ((s.data.toList.getD i 0).toNat : Int)
def runeS (n : Int) : ByteArray := Utf8.encode n
def part (es : List (List D)) (l g : Nat) : List (List D) := (es.take g).drop l
def D.eqKey : D → D → Bool
 | .int a, .int b => a == b
 | .str a, .str b => a.toList == b.toList
 | .bool a, .bool b => a == b
 | _, _ => false
def mput (es : List (D × List D)) (k : D) (v : List D) : List (D × List D) := match es with
 | [] => [(k, v)]
 | (a, w) :: r => bif D.eqKey k a then (k, v) :: r else (a, w) :: mput r k v
def mdel (es : List (D × List D)) (k : D) : List (D × List D) := match es with
 | [] => []
 | (a, w) :: r => bif D.eqKey k a then r else (a, w) :: mdel r k
def mhas (es : List (D × List D)) (k : D) : Bool := match es with
 | [] => false
 | (a, _) :: r => bif D.eqKey k a then true else mhas r k
def mget (es : List (D × List D)) (k : D) (z : List D) : List D := match es with
 | [] => z
 | (a, v) :: r => bif D.eqKey k a then v else mget r k z
def fits (n bytes : Nat) : Bool := decide (n * bytes ≤ maxBytes ∧ n ≤ maxBytes)
def within (i : Int) (n : Nat) : Bool := decide (0 ≤ i ∧ i.toNat < n)
def upTo (i : Int) (n : Nat) : Bool := decide (0 ≤ i ∧ i.toNat ≤ n)
def D.some? : D → Bool | .row (_ :: _) => true | _ => false
def tagIs (t : Nat) (d : D) : Bool := match d with | .row (r :: _) => (match r with | .int n :: _ => decide (n = (t : Int)) | _ => false) | _ => false
def payD (d : D) : D := cell 1 (elem 0 d.toRows)
def firstD (d : D) : List D := elem 0 d.toRows
def lookT : List Nat → List FT → Nat → Option FT
 | a :: ts, ft :: fts, t => match Nat.beq a t with | true => some ft | false => lookT ts fts t
 | _, _, _ => none
def ofD : FT → D → UV
 | .bool, d => .bool d.toBool
 | .int k, d => .int k d.toInt
 | .str, d => .str d.toStr
 | .row _ fts, d => .fz fts d.toRows false
 | .ptr fts, d => .pz fts d
 | .ifc ts fts, d => .ifz ts fts d
def ofDs : Nat → List FT → List D → List UV
 | _, [], _ => []
 | j, ft :: fts, ds => ofD ft (cell j ds) :: ofDs (j + 1) fts ds
def rowOf : UO → Option (List FT × List (List D))
 | .row fts es => some (fts, es)
 | .old fts es => some (fts, es)
 | _ => none
def toP : FT → UV → Option D
 | .bool, .bool b => some (.bool b)
 | .int k, .int k' n => match decide (k = k') with | true => some (.int n) | false => none
 | .str, .str x => some (.str x)
 | .ptr fts, .pz fts' d => match FT.sames fts fts' with | true => some d | false => none
 | .ptr fts, .pn fts' ds 0 => match FT.sames fts fts' with | true => some (.row [ds]) | false => none
 | _, _ => none
def toD (s : USt) : FT → UV → Option D
 | .ptr _, .nilptr => some .nil
 | .ptr fts, .pz fts' d => match FT.sames fts fts' with | true => some d | false => none
 | .ptr fts, .pn fts' ds 0 => match FT.sames fts fts' with | true => some (.row [ds]) | false => none
 | .ifc _ _, .niliface => some .nil
 | .ifc ts fts, .ifz ts' fts' d => match natsEq ts ts' && FT.sames fts fts' with | true => some d | false => none
 | .ifc ts fts, .iface t u => match lookT ts fts t with
  | some ft => match toP ft u with | some d => some (.row [[.int t, d]]) | none => none
  | none => none
 | .bool, .bool b => some (.bool b)
 | .int k, .int k' n => match decide (k = k') with | true => some (.int n) | false => none
 | .str, .str x => some (.str x)
 | .row _ _, .nilslice => some .nil
 | .row _ fts, .fz fts' es _ => match FT.sames fts fts' with | true => some (.row es) | false => none
 | .row _ fts, .nn fts' es => match FT.sames fts fts' with | true => some (.row es) | false => none
 | .row _ fts, .own o => match rowOf (s.get o) with
  | some (fts', es) => match FT.sames fts fts' with | true => some (.row es) | false => none
  | none => none
 | _, _ => none
def toDs (s : USt) : List FT → List UV → Option (List D)
 | [], [] => some []
 | ft :: fts, v :: vs => match toD s ft v, toDs s fts vs with
  | some d, some ds => some (d :: ds)
  | _, _ => none
 | _, _ => none
def uchunks (n : Nat) : Nat → List UV → List (List UV)
 | 0, _ => []
 | k + 1, l => l.take n :: uchunks n k (l.drop n)
def toRowsD (s : USt) (fts : List FT) : List (List UV) → Option (List (List D))
 | [] => some []
 | r :: rs => match toDs s fts r, toRowsD s fts rs with
  | some d, some ds => some (d :: ds)
  | _, _ => none
def freeze1 (s : USt) : UV → USt
 | .own o => match s.get o with
  | .row fts es => s.upd o (.old fts es)
  | _ => s
 | _ => s
def freeze (s : USt) : List UV → USt
 | [] => s
 | v :: vs => freeze (freeze1 s v) vs
def holds (o : Nat) : List UV → Bool
 | [] => false
 | .own p :: r => Nat.beq p o || holds o r
 | _ :: r => holds o r
def ucells : UV → List UV
 | .agg cs => cs
 | v => [v]
def uone : UV → Bool
 | .agg _ | .tuple _ | .undef => false
 | _ => true
def ofVV : Nat → VV → Option UV
 | 0, _ => none
 | _ + 1, .bool b => some (.bool b)
 | _ + 1, .int k n => some (.int k n)
 | _ + 1, .str s => some (.str s)
 | _ + 1, .nilptr => some .nilptr
 | _ + 1, .nilslice => some .nilslice
 | _ + 1, .nilmap => some .nilmap
 | _ + 1, .nilfunc => some .nilfunc
 | _ + 1, .niliface => some .niliface
 | d + 1, .agg cs => (go d cs).map .agg
 | _, _ => none
where go (d : Nat) : List VV → Option (List UV)
 | [] => some []
 | v :: vs => match ofVV d v, go d vs with
  | some x, some xs => some (x :: xs)
  | _, _ => none
def uev (e : UEnv) : Operand → UV
 | .tmp t => e.get t
 | .const v => match ofVal 3 v with
  | some x => (ofVV 3 x).getD .undef
  | none => .undef
 | .global _ => .undef
 | .func f => .func f
def uargs (e : UEnv) (xs : Array Operand) : List UV := xs.toList.map (uev e)
section
variable (P : Program)
def uzero (t : TypeId) : Option UV := (vzero P t).bind (ofVV 3)
def ufrom (t : TypeId) (cs : List UV) : Option UV :=
 match P.underlying t with
 | some (.struct _) => some (.agg cs)
 | some (.array _ _) => some (.agg cs)
 | some _ => match cs with
  | [v] => some v
  | _ => none
 | none => none
def upart (t : TypeId) (cs : List UV) (off : Nat) : Option UV :=
 match Nat.ble (off + P.cellsOf t) cs.length with
 | true => ufrom P t ((cs.drop off).take (P.cellsOf t))
 | false => none
def uload (t : TypeId) (s : USt) : UV → Option UV
 | .ptr o f => match s.get o with
  | .obj cs => upart P t cs f
  | _ => none
 | .eptr o i f => match rowOf (s.get o) with
  | some (fts, es) => match Nat.ble (f + P.cellsOf t) fts.length with
   | true => ufrom P t (ofDs f ((fts.drop f).take (P.cellsOf t)) (elem i es))
   | false => none
  | none => none
 | .fptr fts es i f => match Nat.ble (f + P.cellsOf t) fts.length with
  | true => ufrom P t (ofDs f ((fts.drop f).take (P.cellsOf t)) (elem i es))
  | false => none
 | .aptr fts o g n j f => match s.get o with
  | .obj cs => match Nat.ble (f + P.cellsOf t) fts.length && Nat.ble (g + n * fts.length) cs.length, toRowsD [] fts (uchunks fts.length n (cs.drop g)) with
   | true, some rows => ufrom P t (ofDs f ((fts.drop f).take (P.cellsOf t)) (elem j rows))
   | _, _ => none
  | _ => none
 | .pn fts ds f => match Nat.ble (f + P.cellsOf t) fts.length with
  | true => ufrom P t (ofDs f ((fts.drop f).take (P.cellsOf t)) ds)
  | false => none
 | _ => none
def urowsU (fts : List FT) (rows : List (List D)) : Nat → Nat → List UV
 | _, 0 => []
 | i, k + 1 => ofDs 0 fts (elem i rows) ++ urowsU fts rows (i + 1) k
def ustore (t : TypeId) (s : USt) (a v : UV) : Option USt :=
 let cs := ucells v
 match Nat.beq cs.length (P.cellsOf t) && !Nat.beq (P.cellsOf t) 0 && cs.all uone with
 | false => none
 | true => match a with
  | .ptr o f => match s.get o with
   | .obj old => match Nat.ble (f + cs.length) old.length with
    | true => some (s.upd o (.obj (old.take f ++ cs ++ old.drop (f + cs.length))))
    | false => none
   | _ => none
  | .eptr o i f => match s.get o with
   | .row fts es => match Nat.ble (f + cs.length) fts.length, toDs s ((fts.drop f).take cs.length) cs with
    | true, some ds => match holds o cs with
     | false => some ((freeze s cs).upd o (.row fts (putAt es i f ds)))
     | true => none
    | _, _ => none
   | _ => none
  | .aptr fts o g n j f => match s.get o with
   | .obj old => match Nat.ble (f + cs.length) fts.length && Nat.ble (g + n * fts.length) old.length && !holds o cs, toRowsD [] fts (uchunks fts.length n (old.drop g)), toDs s ((fts.drop f).take cs.length) cs with
    | true, some rows, some ds => some ((freeze s cs).upd o (.obj (old.take g ++ urowsU fts (putAt rows j f ds) 0 n ++ old.drop (g + n * fts.length))))
    | _, _, _ => none
   | _ => none
  | _ => none
end
end Go.Proofs.Ythlbahcggmbfaaa.V

namespace Go.Proofs.Ythlbahcggmbfaaa.V
section
variable (P : Program) {R : Type}
def rowFT (t : TypeId) : Option (List FT) :=
 match P.underlying t with
 | some (.slice e) => match flat P 20 e with
  | some fts => match Nat.beq fts.length (P.cellsOf e) && !Nat.beq fts.length 0 with
   | true => some fts
   | false => none
  | none => none
 | _ => none
def ufill (place : Nat → Option (Nat × Nat)) (cells : List UV) : List (Nat × UV) → Option (List UV)
 | [] => some cells
 | (i, v) :: rest =>
  match place i with
  | none => none
  | some (off, size) =>
   match Nat.beq (ucells v).length size && Nat.ble (off + size) cells.length && (ucells v).all uone with
   | true => ufill place (cells.take off ++ ucells v ++ cells.drop (off + size)) rest
   | false => none
def ubuild (t : TypeId) (parts : List (Nat × UV)) : Option UV :=
 match uzero P t with
 | some z => match P.underlying t with
  | some (.struct fs) => match fs.toList.all (fun f => (P.info? f.type).isSome) with
   | true => (ufill (fun i => (fs[i]?).map fun f => (f.offset, P.cellsOf f.type)) (ucells z) parts).map .agg
   | false => none
  | some (.array _ e) => match Nat.beq (P.cellsOf e) 0 with
   | true => none
   | false => (ufill (fun i => some (i * P.cellsOf e, P.cellsOf e)) (ucells z) parts).map .agg
  | _ => none
 | none => none
def ubuildSlice (t : TypeId) (len : Nat) (parts : List (Nat × UV)) (s : USt) : Option (List FT × List (List D) × List UV) :=
 match P.underlying t, rowFT P t with
 | some (.slice e), some fts => match uzero P e with
  | some z =>
   let n := P.cellsOf e
   match Nat.beq n 0 || !Nat.ble (len * n) (2 ^ 24) with
   | true => none
   | false => match ufill (fun i => some (i * n, n)) (List.flatten (List.replicate len (ucells z))) parts with
    | some cs => match cs.all uone, toRowsD s fts (uchunks n len cs) with
     | true, some es => some (fts, es, cs)
     | _, _ => none
    | none => none
  | none => none
 | _, _ => none
def urows (s : USt) (fts : List FT) : UV → Option (List (List D))
 | .nilslice => some []
 | .fz fts' es _ => match FT.sames fts fts' with | true => some es | false => none
 | .nn fts' es => match FT.sames fts fts' with | true => some es | false => none
 | .own o => match rowOf (s.get o) with
  | some (fts', es) => match FT.sames fts fts' with | true => some es | false => none
  | none => none
 | .str x => match fts with
  | [.int .u8] => some (bytesD x)
  | _ => none
 | _ => none
def uarr (el : TypeId) (n : Nat) (cs : List UV) : Option (List FT × List (List D)) :=
 match flat P 20 el with
 | some fts => match Nat.beq fts.length (P.cellsOf el) && Nat.beq cs.length (n * fts.length), toRowsD [] fts (uchunks fts.length n cs) with
  | true, some rows => some (fts, rows)
  | _, _ => none
 | none => none
def isCons {α : Type} : List α → Bool
 | [] => false
 | _ :: _ => true
def uappend (t : TypeId) (x y : UV) (s : USt) (K : UV → USt → Option R) : Option R :=
 match P.underlying t, rowFT P t with
 | some (.slice e), some fts => match uzero P e, urows s fts y with
  | some _, some ys => match x with
   | .nilslice => cond (fits ys.length (P.bytesOf e)) (K (.own s.len) (s.push (.row fts ys))) none
   | .own o => match s.get o with
    | .row fts' es => match FT.sames fts fts' with
     | true => cond (fits (es.length + ys.length) (P.bytesOf e)) (K (.own s.len) ((s.upd o .gone).push (.row fts (es ++ ys)))) none
     | false => none
    | _ => none
   | .fz fts' es true => match FT.sames fts fts', isCons ys with
    | true, true => cond (fits (es.length + ys.length) (P.bytesOf e)) (K (.own s.len) (s.push (.row fts (es ++ ys)))) none
    | _, _ => none
   | _ => none
  | _, _ => none
 | _, _ => none
def ulen (s : USt) : UV → Option Int
 | .nilslice => some 0
 | .fz _ es _ => some (es.length : Nat)
 | .nn _ es => some (es.length : Nat)
 | .own o => match rowOf (s.get o) with
  | some (_, es) => some (es.length : Nat)
  | none => none
 | .str x => some (x.size : Nat)
 | .nilmap => some 0
 | .map o => match s.get o with
  | .map _ _ _ es => some (es.length : Nat)
  | _ => none
 | _ => none
def usl : UV → Bool
 | .nilslice | .fz _ _ _ | .nn _ _ | .own _ => true
 | _ => false
def uNat : UV → Option Int
 | .int _ n => some n
 | _ => none
def optInt (d : Int) : Option UV → Option Int
 | none => some d
 | some v => uNat v
def usrc (s : USt) : UV → Option (List FT × List (List D))
 | .fz fts es _ => some (fts, es)
 | .nn fts es => some (fts, es)
 | .own o => rowOf (s.get o)
 | _ => none
def uslice (esz : Nat) (x : UV) (lo hi mx : Option UV) (s : USt) (K : UV → USt → Option R) : Option R :=
 match optInt 0 lo with
 | none => none
 | some l => match x with
  | .str b => match optInt (b.size : Nat) hi, mx with
   | some g, none => cond (decide (0 ≤ l ∧ l ≤ g) && upTo g b.size) (K (.str (b.extract l.toNat g.toNat)) s) none
   | _, _ => none
  | .nilslice => match optInt 0 hi, optInt 0 mx, hi.isSome || mx.isNone with
   | some g, some m, true => cond (decide (l = 0 ∧ g = 0 ∧ m = 0)) (K .nilslice s) none
   | _, _, _ => none
  | x => match usrc s x with
   | none => none
   | some (fts, es) => match Nat.beq esz fts.length, optInt (es.length : Nat) hi with
    | true, some g => match mx with
     | none => cond (decide (0 ≤ l ∧ l ≤ g) && upTo g es.length) (K (.fz fts (part es l.toNat g.toNat) false) (freeze1 s x)) none
     | some m => match hi, uNat m with
      | some _, some m => cond (decide (0 ≤ l ∧ l ≤ g) && upTo g es.length && decide (m = g)) (K (.fz fts (part es l.toNat g.toNat) true) (freeze1 s x)) none
      | _, _ => none
    | _, _ => none
def uint (op : BinOp) (k : IntKind) (x y : Int) (K : UV → Option R) : Option R :=
 match op with
 | .add => K (.int k (k.wrap (x + y)))
 | .sub => K (.int k (k.wrap (x - y)))
 | .mul => K (.int k (k.wrap (x * y)))
 | .quo => cond (decide (y = 0)) none (K (.int k (k.wrap (x.tdiv y))))
 | .rem => cond (decide (y = 0)) none (K (.int k (x.tmod y)))
 | .and => K (.int k (k.wrap (BitVec.ofInt k.bits x &&& BitVec.ofInt k.bits y).toNat))
 | .or => K (.int k (k.wrap (BitVec.ofInt k.bits x ||| BitVec.ofInt k.bits y).toNat))
 | .xor => K (.int k (k.wrap (BitVec.ofInt k.bits x ^^^ BitVec.ofInt k.bits y).toNat))
 | .andNot => K (.int k (k.wrap (BitVec.ofInt k.bits x &&& ~~~ (BitVec.ofInt k.bits y)).toNat))
 | .eql => K (.bool (decide (x = y)))
 | .neq => K (.bool (!decide (x = y)))
 | .lss => K (.bool (decide (x < y)))
 | .leq => K (.bool (decide (x ≤ y)))
 | .gtr => K (.bool (decide (y < x)))
 | .geq => K (.bool (decide (y ≤ x)))
 | _ => none
def ushift (op : BinOp) (k : IntKind) (x y : Int) (K : UV → Option R) : Option R :=
 cond (decide (y < 0)) none (match op with
 | .shl => K (.int k (k.wrap (x * 2 ^ (min y.toNat k.bits))))
 | .shr => K (.int k (x.fdiv (2 ^ (min y.toNat k.bits))))
 | _ => none)
def ustr (op : BinOp) (x y : ByteArray) (K : UV → Option R) : Option R :=
 match op with
 | .add => cond (decide (((x.size + y.size : Nat) : Int) ≤ IntKind.i64.max)) (K (.str (x ++ y))) none
 | .eql => K (.bool (strEq x y))
 | .neq => K (.bool (!strEq x y))
 | .lss => K (.bool (strLt x y))
 | .leq => K (.bool (strLt x y || strEq x y))
 | .gtr => K (.bool (!(strLt x y || strEq x y)))
 | .geq => K (.bool (!strLt x y))
 | _ => none
def ueq : (depth : Nat) → TypeId → UV → UV → Option Bool
 | 0, _, _, _ => none
 | d + 1, t, x, y =>
  match P.underlying t, x, y with
  | some .bool, .bool a, .bool b => some (a == b)
  | some (.int _), .int k a, .int k' b => match decide (k = k') with | true => some (decide (a = b)) | false => none
  | some .string, .str a, .str b => some (strEq a b)
  | some (.pointer _), .nilptr, .nilptr => some true
  | some (.pointer _), .nilptr, .ptr _ _ => some false
  | some (.pointer _), .ptr _ _, .nilptr => some false
  | some (.pointer _), .pz _ d, .nilptr => some (!d.some?)
  | some (.pointer _), .nilptr, .pz _ d => some (!d.some?)
  | some (.pointer _), .pn _ _ _, .nilptr => some false
  | some (.interface _), .niliface, .ifz _ _ d => some (!d.some?)
  | some (.interface _), .ifz _ _ d, .niliface => some (!d.some?)
  | some (.interface _), .niliface, .niliface => some true
  | some (.interface _), .niliface, .iface _ _ => some false
  | some (.interface _), .iface _ _, .niliface => some false
  | some (.interface _), .iface tx vx, .iface ty vy =>
   match Nat.beq tx ty with
   | false => some false
   | true => match (P.info? tx).map (·.comparable) with
    | some true => ueq d tx vx vy
    | _ => none
  | some (.struct fs), .agg xs, .agg ys =>
   match P.stoodInHeld t with
   | true => none
   | false => fs.toList.foldr (fun f r =>
    match decide (f.name = "_") with
    | true => r
    | false => match upart P f.type xs f.offset, upart P f.type ys f.offset, r with
     | some a, some b, some q => (ueq d f.type a b).map (· && q)
     | _, _, _ => none) (some true)
  | some (.slice _), .nilslice, .nilslice => some true
  | some (.slice _), .nn _ _, .nilslice => some false
  | some (.slice _), .nilslice, .nn _ _ => some false
  | some (.map _ _), .nilmap, .nilmap => some true
  | some (.map _ _), .nilmap, .map _ => some false
  | some (.map _ _), .map _, .nilmap => some false
  | _, _, _ => none
def isNI : UV → Bool
 | .niliface => true
 | .ifz _ _ _ => true
 | _ => false
def ueqOK (t : TypeId) (x y : Operand) (u v : UV) : Bool :=
 match u, v with
 | .agg _, .agg _ => !(P.eqGuardType P.depth t)
 | u, v => uone u && uone v && (!(isNI u && isNI v) || isConstB x || isConstB y)
def ubin (op : BinOp) (t : TypeId) (ox oy : Operand) (x y : UV) (K : UV → Option R) : Option R :=
 match x, y with
 | .int k a, .int k' b =>
  match op with
  | .shl | .shr => ushift op k a b K
  | _ => match decide (k = k') with | true => uint op k a b K | false => none
 | .str a, .str b => ustr op a b K
 | x, y =>
  match op, ueqOK P t ox oy x y with
  | .eql, true => match ueq P 100 t x y with | some b => K (.bool b) | none => none
  | .neq, true => match ueq P 100 t x y with | some b => K (.bool (!b)) | none => none
  | _, _ => none
def uun (op : UnOp) (x : UV) : Option UV :=
 match op, x with
 | .neg, .int k n => some (.int k (k.wrap (0 - n)))
 | .xor, .int k n => some (.int k (k.wrap (BitVec.ofInt k.bits (if k.signed then -1 else k.max) ^^^ BitVec.ofInt k.bits n).toNat))
 | .not, .bool b => some (.bool !b)
 | _, _ => none
def uconv (src dst : TypeId) (x : UV) (s : USt) (K : UV → USt → Option R) : Option R :=
 match P.underlying src, P.underlying dst, x with
 | some (.slice e), some .string, x => match P.underlying e, rowFT P src with
  | some (.int .u8), some [.int .u8] => match x with
   | .nilslice => K (.str .empty) s
   | .fz _ _ _ | .own _ => match urows s [.int .u8] x with
    | some es => K (.str (strOf es)) s
    | none => none
   | _ => none
  | _, _ => none
 | some .string, some (.slice e), .str x => match P.underlying e, rowFT P dst with
  | some (.int .u8), some [.int .u8] => cond (decide (x.size ≤ maxBytes)) (K (.own s.len) (s.push (.row [.int .u8] (bytesD x)))) none
  | _, _ => none
 | some _, some (.int k), .int _ n => K (.int k (k.wrap n)) s
 | some _, some .string, .str x => K (.str x) s
 | some (.int _), some .string, .int _ n => K (.str (runeS n)) s
 | _, _, _ => none
def ulast (b : Builtin) (t : Option TypeId) (xs : List UV) (s : USt) (K : UV → USt → Option R) : Option R :=
 match b, xs with
 | .len, [x] => match t.bind P.underlying, x with
  | some .string, .str b => K (.int .i64 (b.size : Nat)) s
  | some (.slice _), v => match usl v, ulen s v with
   | true, some n => K (.int .i64 n) s
   | _, _ => none
  | some (.array n _), _ => K (.int .i64 (n : Nat)) s
  | some (.map _ _), .nilmap => K (.int .i64 0) s
  | some (.map _ _), .map o => match s.get o with
   | .map _ _ _ es => K (.int .i64 (es.length : Nat)) s
   | _ => none
  | _, _ => none
 | .max, [.int k a, .int _ b] => K (.int k (if b > a then b else a)) s
 | .min, [.int k a, .int _ b] => K (.int k (if b < a then b else a)) s
 | _, _ => none
def isAgg : UV → Bool
 | .agg _ => true
 | _ => false
def mapT (t : TypeId) : Option (TypeId × FT × Bool × List FT × List D) :=
 match P.underlying t with
 | some (.map kt et) =>
  match (match P.underlying kt with | some (.int k) => some (FT.int k) | some .string => some FT.str | _ => none) with
  | some kf => match flat P 20 et, uzero P et with
   | some fts, some z => match toDs [] fts (ucells z) with
    | some zd => match P.underlying et, isAgg z with
     | some (.struct _), true => some (et, kf, true, fts, zd)
     | some (.array _ _), true => some (et, kf, true, fts, zd)
     | some (.struct _), false => none
     | some (.array _ _), false => none
     | some _, false => some (et, kf, false, fts, zd)
     | _, _ => none
    | none => none
   | _, _ => none
  | none => none
 | _ => none
def utells (ok : Bool) (v : UV) (is : Bool) : UV := match ok with | true => .tuple [v, .bool is] | false => v
def ulookup (t : TypeId) (m key : UV) (ok : Bool) (s : USt) (K : UV → USt → Option R) : Option R :=
 match mapT P t with
 | some (et, kf, ag, fts, zd) => match toD s kf key with
  | some kd => match m with
   | .nilmap => match uzero P et with
    | some z => K (utells ok z false) s
    | none => none
   | .map o => match s.get o with
    | .map kf' ag' fts' es => match FT.same kf kf' && (ag == ag' && FT.sames fts fts') with
     | true => match ufrom P et (ofDs 0 fts (mget es kd zd)) with
      | some v => K (utells ok v (mhas es kd)) s
      | none => none
     | false => none
    | _ => none
   | _ => none
  | none => none
 | none => none
def umapUpdate (t : TypeId) (m key val : UV) (s : USt) (K : UV → USt → Option R) : Option R :=
 match mapT P t, m with
 | some (_, kf, ag, fts, _), .map o => match s.get o, toD s kf key, toDs s fts (ucells val) with
  | .map kf' ag' fts' es, some kd, some ds => match FT.same kf kf' && (ag == ag' && FT.sames fts fts') && (ag == isAgg val && (ucells val).all uone) with
   | true => K .undef ((freeze s (ucells val)).upd o (.map kf ag fts (mput es kd ds)))
   | false => none
  | _, _, _ => none
 | _, _ => none
def udelete (t : TypeId) (m key : UV) (s : USt) (K : UV → USt → Option R) : Option R :=
 match mapT P t, m with
 | some (_, kf, _, _, _), .map o => match s.get o, toD s kf key with
  | .map kf' ag fts es, some kd => match FT.same kf kf' with
   | true => K (.tuple []) (s.upd o (.map kf ag fts (mdel es kd)))
   | false => none
  | _, _ => none
 | _, _ => none
def ubuiltin (c : Call) (xs : List UV) (s : USt) (K : UV → USt → Option R) : Option R :=
 match c.callee with
 | .builtin .append => match xs, c.argTypes[0]?, c.argTypes[1]? with
  | [x, y], some t, some u => match P.underlying u with
   | some (.slice _) => uappend P t x y s K
   | some .string => uappend P t x y s K
   | _ => none
  | _, _, _ => none
 | .builtin .delete => match xs, c.argTypes[0]? with
  | [m, k], some t => udelete P t m k s K
  | _, _ => none
 | .builtin b => ulast P b c.argTypes[0]? xs s K
 | _ => none
def ufail (t : TypeId) (ok : Bool) (s : USt) (K : UV → USt → Option R) : Option R :=
 match ok with
 | true => match uzero P t with
  | some z => K (.tuple [z, .bool false]) s
  | none => none
 | false => none
def upass (ok : Bool) (v : UV) : UV := match ok with | true => .tuple [v, .bool true] | false => v
def uassert (t : TypeId) (ok : Bool) (x : UV) (s : USt) (K : UV → USt → Option R) : Option R :=
 match P.underlying t with
 | some (.interface _) => none
 | some _ => match x with
  | .iface t' v => match Nat.beq t' t with
   | true => K (upass ok v) s
   | false => ufail P t ok s K
  | .niliface => ufail P t ok s K
  | .ifz ts fts d => match lookT ts fts t with
   | some ft => cond (tagIs t d) (K (upass ok (ofD ft (payD d))) s) (ufail P t ok s K)
   | none => ufail P t ok s K
  | _ => none
 | none => none
def uop (o : Oper) (e : UEnv) (s : USt) (K : UV → USt → Option R) : Option R :=
 match o.op with
 | .move x | .assign x => K (uev e x) s
 | .pick c a b => match uev e c with
  | .bool p => cond p (K (uev e a) s) (K (uev e b) s)
  | _ => none
 | .alloc t => match uzero P t, Nat.beq (P.cellsOf t) 0 with
  | some z, false => K (.ptr s.len 0) (s.push (.obj (ucells z)))
  | _, _ => none
 | .box t x =>
  match Nat.beq (ucells (uev e x)).length (P.cellsOf t) && !Nat.beq (P.cellsOf t) 0 && (ucells (uev e x)).all uone with
  | true => K (.ptr s.len 0) (s.push (.obj (ucells (uev e x))))
  | false => none
 | .build t parts => match ubuild P t (parts.toList.map fun (i, x) => (i, uev e x)) with
  | some v => K v s
  | none => none
 | .buildSlice t len parts => match ubuildSlice P t len (parts.toList.map fun (i, x) => (i, uev e x)) s with
  | some (fts, es, cs) => K (.own s.len) ((freeze s cs).push (.row fts es))
  | none => none
 | .load t a => match uload P t s (uev e a) with
  | some v => K v s
  | none => none
 | .store t a x => match ustore P t s (uev e a) (uev e x) with
  | some s' => K .undef s'
  | none => none
 | .nilCheck x => match uev e x with
  | .ptr o f => K (.ptr o f) s
  | .eptr o i f => K (.eptr o i f) s
  | .aptr fts o g n j f => K (.aptr fts o g n j f) s
  | .fptr fts es i f => K (.fptr fts es i f) s
  | .pz fts d => cond d.some? (K (.pn fts (firstD d) 0) s) none
  | .pn fts ds f => K (.pn fts ds f) s
  | .ifz ts fts d => cond d.some? (K (.ifz ts fts d) s) none
  | .iface t v => K (.iface t v) s
  | _ => none
 | .binOp op t x y _ => ubin P op t x y (uev e x) (uev e y) (K · s)
 | .unOp op _ x => match uun op (uev e x) with
  | some v => K v s
  | none => none
 | .convert src dst x => uconv P src dst (uev e x) s K
 | .makeInterface t x => match P.underlying t with
  | some (.interface _) => none
  | some _ => K (.iface t (uev e x)) s
  | none => none
 | .makeMap t none => match mapT P t with
  | some (_, kf, ag, fts, _) => K (.map s.len) (s.push (.map kf ag fts []))
  | none => none
 | .lookup t m k ok => ulookup P t (uev e m) (uev e k) ok s K
 | .mapUpdate t m k x => umapUpdate P t (uev e m) (uev e k) (uev e x) s K
 | .insert t m k x => umapUpdate P t (uev e m) (uev e k) (uev e x) s K
 | .makeSlice t l c => match P.underlying t, rowFT P t, uNat (uev e l), uNat (uev e c) with
  | some (.slice el), some fts, some l, some c => match uzero P el with
   | some z => match toDs s fts (ucells z) with
    | some zd => cond (decide (0 ≤ l ∧ l ≤ c) && fits c.toNat (P.bytesOf el)) (K (.own s.len) ((freeze s (ucells z)).push (.row fts (List.replicate l.toNat zd)))) none
    | none => none
   | none => none
  | _, _, _, _ => none
 | .slice t x lo hi mx => match P.underlying t, uev e x with
  | some .string, .str b => uslice 0 (.str b) (lo.map (uev e)) (hi.map (uev e)) (mx.map (uev e)) s K
  | some (.slice _), .str _ => none
  | some (.slice el), x => match Nat.beq (P.cellsOf el) 0 with
   | true => none
   | false => match lo, (hi.map (uev e)).bind uNat, (mx.map (uev e)).bind uNat, usrc s x with
    | none, some gh, some gm, some (fts, _) => match Nat.beq (P.cellsOf el) fts.length with
     | true => cond (decide (gh = 0) && decide (gm = 0)) (K (.own s.len) ((freeze1 s x).push (.row fts []))) (uslice (P.cellsOf el) x (lo.map (uev e)) (hi.map (uev e)) (mx.map (uev e)) s K)
     | false => none
    | _, _, _, _ => uslice (P.cellsOf el) x (lo.map (uev e)) (hi.map (uev e)) (mx.map (uev e)) s K
  | _, _ => none
 | .fieldAddr st x f => match P.underlying st, uev e x with
  | some (.struct fs), v => match fs[f]? with
   | some fd => match Nat.beq (P.cellsOf fd.type) 0 with
    | true => none
    | false => match v with
     | .ptr o g => K (.ptr o (g + fd.offset)) s
     | .eptr o i g => K (.eptr o i (g + fd.offset)) s
     | .aptr fts o g n j f => K (.aptr fts o g n j (f + fd.offset)) s
     | .fptr fts es i g => K (.fptr fts es i (g + fd.offset)) s
     | .pz fts d => cond d.some? (K (.pn fts (firstD d) fd.offset) s) none
     | .pn fts ds g => K (.pn fts ds (g + fd.offset)) s
     | _ => none
   | none => none
  | _, _ => none
 | .field st x f => match P.underlying st, uev e x with
  | some (.struct fs), .agg cs => match fs[f]? with
   | some fd => match upart P fd.type cs fd.offset with
    | some v => K v s
    | none => none
   | none => none
  | _, _ => none
 | .indexAddr t x ix => match P.underlying t, uev e x, uNat (uev e ix) with
  | some (.slice el), .own o, some j => match rowOf (s.get o) with
   | some (fts, es) => match Nat.beq (P.cellsOf el) fts.length with
    | true => cond (within j es.length) (K (.eptr o j.toNat 0) s) none
    | false => none
   | none => none
  | some (.slice el), .fz fts es _, some j => match Nat.beq (P.cellsOf el) fts.length with
   | true => cond (within j es.length) (K (.fptr fts es j.toNat 0) s) none
   | false => none
  | some (.array n el), .ptr o f, some j => match Nat.beq (P.cellsOf el) 0, flat P 20 el with
   | false, some fts => match Nat.beq fts.length (P.cellsOf el) with
    | true => cond (within j n) (K (.aptr fts o f n j.toNat 0) s) none
    | false => none
   | _, _ => none
  | _, _, _ => none
 | .index t x ix => match P.underlying t, uev e x, uNat (uev e ix) with
  | some .string, .str b, some j => cond (within j b.size) (K (.int .u8 (byteAt b j.toNat)) s) none
  | some (.array n el), .agg cs, some j => match uarr P el n cs with
   | some (fts, rows) => match ufrom P el (ofDs 0 fts (elem j.toNat rows)) with
    | some v => cond (within j n) (K v s) none
    | none => none
   | none => none
  | _, _, _ => none
 | .typeAssert x _ t ok => uassert P t ok (uev e x) s K
 | .extract x i => match uev e x with
  | .tuple vs => match vs[i]? with
   | some v => K v s
   | none => none
  | _ => none
 | .call cl => ubuiltin P cl (uargs e cl.args) s K
 | _ => none
end
end Go.Proofs.Ythlbahcggmbfaaa.V

namespace Go.Proofs.Ythlbahcggmbfaaa.V
theorem natsEq_eq : ∀ (x y : List Nat), natsEq x y = true → x = y
 | [], [], _ => rfl
 | a :: x, b :: y, h => by
  simp only [natsEq, Bool.and_eq_true] at h
  rw [Nat.eq_of_beq_eq_true h.1, natsEq_eq x y h.2]
 | [], _ :: _, h | _ :: _, [], h => by simp [natsEq] at h
mutual
theorem FT.same_eq : ∀ (a b : FT), FT.same a b = true → a = b
 | .bool, .bool, _ => rfl
 | .int j, .int k, h => by simp only [FT.same, decide_eq_true_eq] at h; rw [h]
 | .str, .str, _ => rfl
 | .row a x, .row b y, h => by
  simp only [FT.same, Bool.and_eq_true] at h
  rw [Nat.eq_of_beq_eq_true h.1, FT.sames_eq x y h.2]
 | .ptr x, .ptr y, h => by simp only [FT.same] at h; rw [FT.sames_eq x y h]
 | .ifc t x, .ifc u y, h => by
  simp only [FT.same, Bool.and_eq_true] at h
  rw [natsEq_eq t u h.1, FT.sames_eq x y h.2]
 | .bool, .int _, h | .bool, .str, h | .bool, .row _ _, h | .bool, .ptr _, h | .bool, .ifc _ _, h | .int _, .bool, h | .int _, .str, h | .int _, .row _ _, h | .int _, .ptr _, h | .int _, .ifc _ _, h | .str, .bool, h | .str, .int _, h | .str, .row _ _, h | .str, .ptr _, h | .str, .ifc _ _, h
 | .row _ _, .bool, h | .row _ _, .int _, h | .row _ _, .str, h | .row _ _, .ptr _, h | .row _ _, .ifc _ _, h | .ptr _, .bool, h | .ptr _, .int _, h | .ptr _, .str, h | .ptr _, .row _ _, h | .ptr _, .ifc _ _, h | .ifc _ _, .bool, h | .ifc _ _, .int _, h | .ifc _ _, .str, h | .ifc _ _, .row _ _, h | .ifc _ _, .ptr _, h => by simp [FT.same] at h
theorem FT.sames_eq : ∀ (x y : List FT), FT.sames x y = true → x = y
 | [], [], _ => rfl
 | a :: x, b :: y, h => by
  simp only [FT.sames, Bool.and_eq_true] at h
  rw [FT.same_eq a b h.1, FT.sames_eq x y h.2]
 | [], _ :: _, h | _ :: _, [], h => by simp [FT.sames] at h
end
abbrev VG := Nat → Option VObj
inductive RD (g : VG) (K : Nat → Prop) : FT → D → VV → Prop
 | bool (b : Bool) : RD g K .bool (.bool b) (.bool b)
 | int (k : IntKind) (n : Int) : RD g K (.int k) (.int n) (.int k n)
 | str (s : ByteArray) : RD g K .str (.str s) (.str s)
 | nil (bytes : Nat) (fts : List FT) : RD g K (.row bytes fts) .nil .nilslice
 | row0 (bytes : Nat) (fts : List FT) : RD g K (.row bytes fts) (.row []) .nilslice
 | row (bytes : Nat) (fts : List FT) (rows : List (List D)) (b i n : Nat) (c : Option Nat) (z : Nat) (k : Blk) (hg : g b = some (.cells k)) (hK : K k.fam) (hz : k.esz = fts.length) (hz' : z = fts.length) (h0 : 0 < fts.length)
   (hn : n = rows.length) (hlen : i + n ≤ k.es.length) (hc : ∀ cp, c = some cp → n ≤ cp)
   (hl : ∀ (j : Nat) r cs, rows[j]? = some r → k.es[i + j]? = some cs → r.length = fts.length ∧ cs.length = fts.length)
   (hr : ∀ (j : Nat) r cs, rows[j]? = some r → k.es[i + j]? = some cs → ∀ (m : Nat) ft d v, fts[m]? = some ft → r[m]? = some d → cs[m]? = some v → RD g K ft d v) :
   RD g K (.row bytes fts) (.row rows) (.slice b i n c z)
 | pnil (fts : List FT) : RD g K (.ptr fts) .nil .nilptr
 | ptr (fts : List FT) (ds : List D) (b : Nat) (k : Blk) (cs : List VV) (hg : g b = some (.cells k)) (hK : K k.fam) (hes : k.es = [cs]) (hl : ds.length = fts.length) (hlv : cs.length = fts.length)
   (hr : ∀ (m : Nat) ft d v, fts[m]? = some ft → ds[m]? = some d → cs[m]? = some v → RD g K ft d v) : RD g K (.ptr fts) (.row [ds]) (.ptr b 0 0)
 | inil (ts : List Nat) (fts : List FT) : RD g K (.ifc ts fts) .nil .niliface
 | ifc (ts : List Nat) (fts : List FT) (t : Nat) (ft : FT) (d : D) (v : VV) (ht : lookT ts fts t = some ft) (h : RD g K ft d v) : RD g K (.ifc ts fts) (.row [[.int t, d]]) (.iface t v)
structure RDL (g : VG) (K : Nat → Prop) (fts : List FT) (ds : List D) (vs : List VV) : Prop where
 len : ds.length = fts.length
 lenv : vs.length = fts.length
 at_ : ∀ (m : Nat) ft d v, fts[m]? = some ft → ds[m]? = some d → vs[m]? = some v → RD g K ft d v
theorem RDL.nil (g : VG) (K : Nat → Prop) : RDL g K [] [] [] := ⟨rfl, rfl, by simp⟩
theorem RDL.cons {g : VG} {K : Nat → Prop} {ft : FT} {d : D} {v : VV} {fts : List FT} {ds : List D} {vs : List VV} (h : RD g K ft d v) (k : RDL g K fts ds vs) : RDL g K (ft :: fts) (d :: ds) (v :: vs) := by
 refine ⟨by simp [k.len], by simp [k.lenv], fun j a b c h1 h2 h3 => ?_⟩
 cases j with
 | zero => simp at h1 h2 h3; subst h1; subst h2; subst h3; exact h
 | succ j => simp at h1 h2 h3; exact k.at_ j a b c h1 h2 h3
theorem RDL.head {g : VG} {K : Nat → Prop} {ft : FT} {d : D} {v : VV} {fts : List FT} {ds : List D} {vs : List VV} (k : RDL g K (ft :: fts) (d :: ds) (v :: vs)) : RD g K ft d v := k.at_ 0 _ _ _ rfl rfl rfl
theorem RDL.tail {g : VG} {K : Nat → Prop} {ft : FT} {d : D} {v : VV} {fts : List FT} {ds : List D} {vs : List VV} (k : RDL g K (ft :: fts) (d :: ds) (v :: vs)) : RDL g K fts ds vs :=
 ⟨by simpa using k.len, by simpa using k.lenv, fun m a b c h1 h2 h3 => k.at_ (m + 1) a b c (by simpa using h1) (by simpa using h2) (by simpa using h3)⟩
structure Seg (g : VG) (K : Nat → Prop) (fts : List FT) (rows : List (List D)) (es : List (List VV)) (i : Nat) : Prop where
 len : i + rows.length ≤ es.length
 at_ : ∀ (j : Nat) r cs, rows[j]? = some r → es[i + j]? = some cs → RDL g K fts r cs
theorem RD.seg {g : VG} {K : Nat → Prop} {bytes : Nat} {fts : List FT} {rows : List (List D)} {b i n : Nat} {c : Option Nat} {z : Nat} (h : RD g K (.row bytes fts) (.row rows) (.slice b i n c z)) :
  ∃ k, g b = some (.cells k) ∧ K k.fam ∧ k.esz = fts.length ∧ z = fts.length ∧ 0 < fts.length ∧ n = rows.length ∧ (∀ cp, c = some cp → n ≤ cp) ∧ Seg g K fts rows k.es i := by
 cases h with
 | row bytes fts rows b i n c z k hg hK hz hz' h0 hn hlen hc hl hr =>
  exact ⟨k, hg, hK, hz, hz', h0, hn, hc, ⟨by omega, fun j r cs h1 h2 => ⟨(hl j r cs h1 h2).1, (hl j r cs h1 h2).2, hr j r cs h1 h2⟩⟩⟩
theorem RD.of_seg {g : VG} {K : Nat → Prop} (bytes : Nat) {fts : List FT} {rows : List (List D)} {b i n : Nat} {c : Option Nat} {z : Nat} {k : Blk} (hg : g b = some (.cells k)) (hK : K k.fam) (hz : k.esz = fts.length) (hz' : z = fts.length) (h0 : 0 < fts.length)
  (hn : n = rows.length) (hc : ∀ cp, c = some cp → n ≤ cp) (hs : Seg g K fts rows k.es i) : RD g K (.row bytes fts) (.row rows) (.slice b i n c z) :=
 .row bytes fts rows b i n c z k hg hK hz hz' h0 hn (by have := hs.len; omega) hc (fun j r cs h1 h2 => ⟨(hs.at_ j r cs h1 h2).len, (hs.at_ j r cs h1 h2).lenv⟩) (fun j r cs h1 h2 => (hs.at_ j r cs h1 h2).at_)
theorem RD.ptr_inv {g : VG} {K : Nat → Prop} {fts : List FT} {ds : List D} {b : Nat} (h : RD g K (.ptr fts) (.row [ds]) (.ptr b 0 0)) : ∃ k, g b = some (.cells k) ∧ K k.fam ∧ Seg g K fts [ds] k.es 0 := by
 cases h with
 | ptr fts ds b k cs hg hK hes hl hlv hr =>
  refine ⟨k, hg, hK, by rw [hes]; simp, fun j r xs h1 h2 => ?_⟩
  rw [hes] at h2
  cases j with
  | zero => simp at h1 h2; subst h1; subst h2; exact ⟨hl, hlv, hr⟩
  | succ j => simp at h1
structure Keeps (g : VG) (K : Nat → Prop) (g' : VG) (K' : Nat → Prop) : Prop where
 row : ∀ b k, g b = some (.cells k) → K k.fam → g' b = some (.cells k)
 K : ∀ f, K f → K' f
theorem Keeps.refl (g : VG) (K : Nat → Prop) : Keeps g K g K := ⟨fun _ _ h _ => h, fun _ h => h⟩
theorem Keeps.trans {g g1 g2 : VG} {K K1 K2 : Nat → Prop} (h : Keeps g K g1 K1) (k : Keeps g1 K1 g2 K2) : Keeps g K g2 K2 :=
 ⟨fun b kb h1 h2 => k.row b kb (h.row b kb h1 h2) (h.K _ h2), fun f hf => k.K f (h.K f hf)⟩
theorem RD.keep {g g' : VG} {K K' : Nat → Prop} (hk : Keeps g K g' K') {ft : FT} {d : D} {v : VV} (h : RD g K ft d v) : RD g' K' ft d v := by
 induction h with
 | bool b => exact .bool b
 | int k n => exact .int k n
 | str s => exact .str s
 | nil bytes fts => exact .nil bytes fts
 | row0 bytes fts => exact .row0 bytes fts
 | row bytes fts rows b i n c z k hg hK hz hz' h0 hn hlen hc hl hr ih => exact .row bytes fts rows b i n c z k (hk.row b k hg hK) (hk.K _ hK) hz hz' h0 hn hlen hc hl ih
 | pnil fts => exact .pnil fts
 | ptr fts ds b k cs hg hK hes hl hlv hr ih => exact .ptr fts ds b k cs (hk.row b k hg hK) (hk.K _ hK) hes hl hlv ih
 | inil ts fts => exact .inil ts fts
 | ifc ts fts t ft d v ht h ih => exact .ifc ts fts t ft d v ht ih
theorem RDL.keep {g g' : VG} {K K' : Nat → Prop} (hk : Keeps g K g' K') {fts : List FT} {ds : List D} {vs : List VV} (h : RDL g K fts ds vs) : RDL g' K' fts ds vs :=
 ⟨h.len, h.lenv, fun m a b c h1 h2 h3 => (h.at_ m a b c h1 h2 h3).keep hk⟩
theorem Seg.keep {g g' : VG} {K K' : Nat → Prop} (hk : Keeps g K g' K') {fts : List FT} {rows : List (List D)} {es : List (List VV)} {i : Nat} (h : Seg g K fts rows es i) : Seg g' K' fts rows es i :=
 ⟨h.len, fun j r cs a b => (h.at_ j r cs a b).keep hk⟩
theorem RD.one {g : VG} {K : Nat → Prop} {ft : FT} {d : D} {v : VV} (h : RD g K ft d v) : oneCell v = true := by cases h <;> rfl
theorem RDL.one {g : VG} {K : Nat → Prop} {fts : List FT} {ds : List D} {vs : List VV} (h : RDL g K fts ds vs) : vs.all oneCell = true := by
 rw [List.all_eq_true]
 intro v hv
 obtain ⟨m, hm⟩ := List.getElem?_of_mem hv
 have hlt : m < vs.length := (List.getElem?_eq_some_iff.1 hm).1
 have h1 : m < fts.length := by rw [← h.lenv]; exact hlt
 have h2 : m < ds.length := by rw [h.len]; exact h1
 exact (h.at_ m _ _ v (List.getElem?_eq_getElem h1) (List.getElem?_eq_getElem h2) hm).one
structure Cx where
 n : Nat
 ρ : Nat → VV
 K : Nat → Prop
 φ : Nat → Nat → Prop
def one (f : Nat) : Nat → Prop := fun x => x = f
def nof : Nat → Prop := fun _ => False
theorem isOne {A : Nat → Prop} {f : Nat} (h : A = one f) : A f := by rw [h]; rfl
theorem oneOf {A : Nat → Prop} {f x : Nat} (h : A = one f) (hx : A x) : x = f := by rw [h] at hx; exact hx
theorem notOne {A : Nat → Prop} {x : Nat} (h : A = nof) (hx : A x) : False := by rw [h] at hx; exact hx
inductive RV (c : Cx) (vg : VG) : UV → VV → Prop
 | undef (v : VV) : RV c vg .undef v
 | bool (b : Bool) : RV c vg (.bool b) (.bool b)
 | int (k : IntKind) (n : Int) : RV c vg (.int k n) (.int k n)
 | str (s : ByteArray) : RV c vg (.str s) (.str s)
 | nilptr : RV c vg .nilptr .nilptr
 | ptr (o f b : Nat) (ho : o < c.n) (h : c.ρ o = .ptr b 0 0) : RV c vg (.ptr o f) (.ptr b 0 f)
 | eptr (o i f b i0 n : Nat) (cp : Option Nat) (z : Nat) (ho : o < c.n) (h : c.ρ o = .slice b i0 n cp z) (hi : i < n) : RV c vg (.eptr o i f) (.ptr b (i0 + i) f)
 | aptr (fts : List FT) (o g n j f b : Nat) (ho : o < c.n) (h : c.ρ o = .ptr b 0 0) (hj : j < n) : RV c vg (.aptr fts o g n j f) (.ptr b 0 (g + j * fts.length + f))
 | fptr (fts : List FT) (es : List (List D)) (i f b i0 n : Nat) (cp : Option Nat) (z : Nat) (h : RD vg c.K (.row 0 fts) (.row es) (.slice b i0 n cp z)) (hi : i < n) : RV c vg (.fptr fts es i f) (.ptr b (i0 + i) f)
 | nilslice : RV c vg .nilslice .nilslice
 | own (o : Nat) (v : VV) (ho : o < c.n) (h : c.ρ o = v) (hv : v = .nilslice ∨ ∃ b i n cp z, v = .slice b i n cp z) : RV c vg (.own o) v
 | fz (fts : List FT) (es : List (List D)) (cut : Bool) (v : VV) (h : RD vg c.K (.row 0 fts) (.row es) v) (hc : cut = true → v = .nilslice ∨ ∃ b i n z, v = .slice b i n (some n) z) : RV c vg (.fz fts es cut) v
 | nn (fts : List FT) (es : List (List D)) (v : VV) (h : RD vg c.K (.row 0 fts) (.row es) v) (hv : ∃ b i n cp z, v = .slice b i n cp z) : RV c vg (.nn fts es) v
 | nilmap : RV c vg .nilmap .nilmap
 | map (o b : Nat) (ho : o < c.n) (h : c.ρ o = .map b) : RV c vg (.map o) (.map b)
 | nilfunc : RV c vg .nilfunc .nilfunc
 | func (f : FuncId) : RV c vg (.func f) (.func (.func f) [] [])
 | pz (fts : List FT) (d : D) (v : VV) (h : RD vg c.K (.ptr fts) d v) : RV c vg (.pz fts d) v
 | pn (fts : List FT) (ds : List D) (f b : Nat) (h : RD vg c.K (.ptr fts) (.row [ds]) (.ptr b 0 0)) : RV c vg (.pn fts ds f) (.ptr b 0 f)
 | ifz (ts : List Nat) (fts : List FT) (d : D) (v : VV) (h : RD vg c.K (.ifc ts fts) d v) : RV c vg (.ifz ts fts d) v
 | niliface : RV c vg .niliface .niliface
 | pown (o : Nat) (v : VV) (ps : List VV) (ho : o < c.n) (h : c.ρ o = .tuple (v :: ps)) (hv : v = .nilslice ∨ ∃ b i n cp z, v = .slice b i n cp z) : RV c vg (.pown o) v
 | pe (o i b i0 n : Nat) (cp : Option Nat) (z : Nat) (ps : List VV) (ho : o < c.n) (h : c.ρ o = .tuple (.slice b i0 n cp z :: ps)) (hi : i < n) : RV c vg (.pe o i) (.ptr b (i0 + i) 0)
 | pp (o i b : Nat) (sv : VV) (ps : List VV) (ho : o < c.n) (h : c.ρ o = .tuple (sv :: ps)) (hp : ps[i]? = some (.ptr b 0 0)) : RV c vg (.pp o i) (.ptr b 0 0)
 | iface (t : TypeId) (u : UV) (v : VV) (h : RV c vg u v) : RV c vg (.iface t u) (.iface t v)
 | agg (us : List UV) (vs : List VV) (hl : us.length = vs.length) (h : ∀ (i : Nat) u v, us[i]? = some u → vs[i]? = some v → RV c vg u v) : RV c vg (.agg us) (.agg vs)
 | tuple (us : List UV) (vs : List VV) (hl : us.length = vs.length) (h : ∀ (i : Nat) u v, us[i]? = some u → vs[i]? = some v → RV c vg u v) : RV c vg (.tuple us) (.tuple vs)
def RVs (c : Cx) (g : VG) (us : List UV) (vs : List VV) : Prop := us.length = vs.length ∧ ∀ (i : Nat) u v, us[i]? = some u → vs[i]? = some v → RV c g u v
theorem RVs.nil (c : Cx) (g : VG) : RVs c g [] [] := ⟨rfl, by simp⟩
theorem RVs.cons {c : Cx} {g : VG} {u : UV} {v : VV} {us : List UV} {vs : List VV} (h : RV c g u v) (k : RVs c g us vs) : RVs c g (u :: us) (v :: vs) := by
 refine ⟨by simp [k.1], fun i a b ha hb => ?_⟩
 cases i with
 | zero => simp at ha hb; subst ha; subst hb; exact h
 | succ i => simp at ha hb; exact k.2 i a b ha hb
theorem RVs.head {c : Cx} {g : VG} {u : UV} {v : VV} {us : List UV} {vs : List VV} (h : RVs c g (u :: us) (v :: vs)) : RV c g u v := h.2 0 u v rfl rfl
theorem RVs.tail {c : Cx} {g : VG} {u : UV} {v : VV} {us : List UV} {vs : List VV} (h : RVs c g (u :: us) (v :: vs)) : RVs c g us vs :=
 ⟨by simpa using h.1, fun i a b ha hb => h.2 (i + 1) a b (by simpa using ha) (by simpa using hb)⟩
theorem RVs.take {c : Cx} {g : VG} {us : List UV} {vs : List VV} (h : RVs c g us vs) (n : Nat) : RVs c g (us.take n) (vs.take n) := by
 refine ⟨by simp [h.1], fun i v v' ha hb => ?_⟩
 rw [List.getElem?_take] at ha hb
 split at ha
 ·rename_i hi; rw [if_pos hi] at hb; exact h.2 i v v' ha hb
 ·cases ha
theorem RVs.drop {c : Cx} {g : VG} {us : List UV} {vs : List VV} (h : RVs c g us vs) (n : Nat) : RVs c g (us.drop n) (vs.drop n) := by
 refine ⟨by simp [h.1], fun i v v' ha hb => ?_⟩
 rw [List.getElem?_drop] at ha hb
 exact h.2 _ v v' ha hb
theorem RVs.append {c : Cx} {g : VG} {x y : List UV} {x' y' : List VV} (h : RVs c g x x') (k : RVs c g y y') : RVs c g (x ++ y) (x' ++ y') := by
 refine ⟨by simp [h.1, k.1], fun i a b ha hb => ?_⟩
 by_cases hi : i < x.length
 ·rw [List.getElem?_append_left hi] at ha
  rw [List.getElem?_append_left (by rw [← h.1]; exact hi)] at hb
  exact h.2 i a b ha hb
 ·rw [List.getElem?_append_right (by omega)] at ha
  rw [List.getElem?_append_right (by rw [← h.1]; omega)] at hb
  rw [← h.1] at hb
  exact k.2 _ a b ha hb
theorem RV.agg' {c : Cx} {g : VG} {us : List UV} {vs : List VV} (h : RVs c g us vs) : RV c g (.agg us) (.agg vs) := .agg us vs h.1 h.2
theorem RV.tuple' {c : Cx} {g : VG} {us : List UV} {vs : List VV} (h : RVs c g us vs) : RV c g (.tuple us) (.tuple vs) := .tuple us vs h.1 h.2
theorem RV.cells {c : Cx} {g : VG} {u : UV} {v : VV} (h : RV c g u v) (hu : u ≠ .undef) : RVs c g (ucells u) (vcells v) := by
 have one : ∀ {u : UV} {v : VV}, RV c g u v → RVs c g [u] [v] := fun h => RVs.cons h (RVs.nil c g)
 cases h with
 | undef v => exact absurd rfl hu
 | agg us vs hl h => exact ⟨hl, h⟩
 | own o v ho h hv =>
  have : vcells v = [v] := by rcases hv with rfl | ⟨b, i, n, cp, z, rfl⟩ <;> rfl
  rw [this]; exact one (.own o v ho h hv)
 | fz fts es cut v h hc =>
  have : vcells v = [v] := by cases h <;> rfl
  rw [this]; exact one (.fz fts es cut v h hc)
 | nn fts es v h hv =>
  have : vcells v = [v] := by cases h <;> rfl
  rw [this]; exact one (.nn fts es v h hv)
 | bool b => exact one (.bool b)
 | int k n => exact one (.int k n)
 | str s => exact one (.str s)
 | nilptr => exact one .nilptr
 | ptr o f b ho h => exact one (.ptr o f b ho h)
 | eptr o i f b i0 n cp z ho h hi => exact one (.eptr o i f b i0 n cp z ho h hi)
 | aptr fts o g n j f b ho h hj => exact one (.aptr fts o g n j f b ho h hj)
 | fptr fts es i f b i0 n cp z h hi => exact one (.fptr fts es i f b i0 n cp z h hi)
 | nilslice => exact one .nilslice
 | pz fts d v h =>
  have : vcells v = [v] := by cases h <;> rfl
  rw [this]; exact one (.pz fts d v h)
 | pn fts ds f b h => exact one (.pn fts ds f b h)
 | ifz ts fts d v h =>
  have : vcells v = [v] := by cases h <;> rfl
  rw [this]; exact one (.ifz ts fts d v h)
 | nilmap => exact one .nilmap
 | map o b ho h => exact one (.map o b ho h)
 | nilfunc => exact one .nilfunc
 | func f => exact one (.func f)
 | niliface => exact one .niliface
 | pown o v ps ho h hv =>
  have : vcells v = [v] := by rcases hv with rfl | ⟨b, i, n, cp, z, rfl⟩ <;> rfl
  rw [this]; exact one (.pown o v ps ho h hv)
 | pe o i b i0 n cp z ps ho h hi => exact one (.pe o i b i0 n cp z ps ho h hi)
 | pp o i b sv ps ho h hp => exact one (.pp o i b sv ps ho h hp)
 | iface t u v h => exact one (.iface t u v h)
 | tuple us vs hl h => exact one (.tuple us vs hl h)
theorem RV.one {c : Cx} {g : VG} {u : UV} {v : VV} (h : RV c g u v) (hu : uone u = true) : oneCell v = true := by
 cases h with
 | own o v ho h hv => rcases hv with rfl | ⟨b, i, n, cp, z, rfl⟩ <;> rfl
 | fz fts es cut v h hc => exact h.one
 | nn fts es v h hv => exact h.one
 | pz fts d v h => exact h.one
 | ifz ts fts d v h => exact h.one
 | pown o v ps ho h hv => rcases hv with rfl | ⟨b, i, n, cp, z, rfl⟩ <;> rfl
 | undef v => cases hu
 | agg us vs hl h => cases hu
 | tuple us vs hl h => cases hu
 | _ => rfl
theorem RVs.one {c : Cx} {g : VG} {us : List UV} {vs : List VV} (h : RVs c g us vs) (hu : us.all uone = true) : vs.all oneCell = true := by
 rw [List.all_eq_true]
 intro v hv
 obtain ⟨m, hm⟩ := List.getElem?_of_mem hv
 have hlt : m < us.length := by rw [h.1]; exact (List.getElem?_eq_some_iff.1 hm).1
 exact (h.2 m _ v (List.getElem?_eq_getElem hlt) hm).one (List.all_eq_true.1 hu _ (List.getElem_mem hlt))
structure Later (c : Cx) (h : VHeap) (c' : Cx) (h' : VHeap) (T : Nat → Prop) : Prop where
 n : c.n ≤ c'.n
 ρ : ∀ o, o < c.n → c'.ρ o = c.ρ o
 K : ∀ f, c.K f → c'.K f
 next : h.next ≤ h'.next
 same : ∀ b o, h.get b = some o → ¬ T (match o with | .cells k => k.fam | .map _ => b) → h'.get b = some o
 fam : ∀ b k, h.get b = some (.cells k) → ∃ k', h'.get b = some (.cells k') ∧ k'.fam = k.fam
 mp : ∀ b es, h.get b = some (.map es) → ∃ es', h'.get b = some (.map es')
 newK : ∀ f, c'.K f → c.K f ∨ h.next ≤ f ∨ ∃ o, c.φ o f
 newφ : ∀ o f, c'.φ o f → h.next ≤ f ∨ ∃ o, c.φ o f
 oldφ : ∀ o f, o < c.n → c'.φ o f → c.φ o f
def isKey : FT → Bool
 | .int _ | .str => true
 | _ => false
def MVal (ag : Bool) (v : VV) (xs : List VV) : Prop := match ag with | true => v = .agg xs | false => xs = [v]
structure Elems (g : VG) (K : Nat → Prop) (fts : List FT) (es : List (List D)) (x : Option Nat) (ps : List VV) (fs : Nat → Option Nat) : Prop where
 len : ps.length = es.length
 ptr : ∀ (j : Nat) p, ps[j]? = some p → ∃ b', p = .ptr b' 0 0
 inj : ∀ j j' f, fs j = some f → fs j' = some f → j = j'
 out : ∀ j, es.length ≤ j → fs j = none
 hole : ∀ j, x = some j → fs j = none
 at_ : ∀ (j : Nat) r b', es[j]? = some r → ps[j]? = some (.ptr b' 0 0) → x ≠ some j → ∃ k xs, g b' = some (.cells k) ∧ fs j = some k.fam ∧ k.es = [xs] ∧ k.esz = fts.length ∧ k.ro = false ∧ k.solo = true ∧ xs.all oneCell = true ∧ RDL g K fts r xs
theorem Elems.keep {g g' : VG} {K K' : Nat → Prop} {fts : List FT} {es : List (List D)} {x : Option Nat} {ps : List VV} {fs : Nat → Option Nat} (h : Elems g K fts es x ps fs) (hk : Keeps g K g' K')
  (hg : ∀ j b k, fs j = some k.fam → g b = some (.cells k) → g' b = some (.cells k)) : Elems g' K' fts es x ps fs := by
 refine ⟨h.len, h.ptr, h.inj, h.out, h.hole, fun j r b' h1 h2 h3 => ?_⟩
 obtain ⟨k', xs, a1, a2, a3, a4, a5, a6, a7, a8⟩ := h.at_ j r b' h1 h2 h3
 exact ⟨k', xs, hg j b' k' a2 a1, a2, a3, a4, a5, a6, a7, a8.keep hk⟩
inductive RO (c : Cx) (g : VG) : UO → VV → (Nat → Prop) → Prop
 | obj (cs : List UV) (b : Nat) (k : Blk) (xs : List VV) (hg : g b = some (.cells k)) (hes : k.es = [xs]) (hz : k.esz = cs.length) (hro : k.ro = false) (hso : k.solo = true) (hx : xs.all oneCell = true) (hr : RVs c g cs xs) :
   RO c g (.obj cs) (.ptr b 0 0) (one k.fam)
 | rowNil (fts : List FT) : RO c g (.row fts []) .nilslice nof
 | rowCut (fts : List FT) (b i z : Nat) (k : Blk) (hg : g b = some (.cells k)) (hK : c.K k.fam) (hz : k.esz = fts.length) (hz' : z = fts.length) (h0 : 0 < fts.length) (hi : i ≤ k.es.length) : RO c g (.row fts []) (.slice b i 0 (some 0) z) nof
 | row (fts : List FT) (es : List (List D)) (b i n : Nat) (cp : Option Nat) (z : Nat) (k : Blk) (hg : g b = some (.cells k)) (hro : k.ro = false) (hz : k.esz = fts.length) (hz' : z = fts.length) (h0 : 0 < fts.length) (hn : n = es.length)
   (hcp : ∀ q, cp = some q → n ≤ q ∧ i + q ≤ k.es.length) (hs : Seg g c.K fts es k.es i) : RO c g (.row fts es) (.slice b i n cp z) (one k.fam)
 | old (fts : List FT) (es : List (List D)) (v : VV) (h : RD g c.K (.row 0 fts) (.row es) v) : RO c g (.old fts es) v nof
 | map (kf : FT) (ag : Bool) (fts : List FT) (es : List (D × List D)) (b : Nat) (ves : List (VV × VV)) (hg : g b = some (.map ves)) (hk : isKey kf = true) (hl : ves.length = es.length)
   (h : ∀ (i : Nat) p q, es[i]? = some p → ves[i]? = some q → RD g c.K kf p.1 q.1 ∧ ∃ xs, MVal ag q.2 xs ∧ RDL g c.K fts p.2 xs) : RO c g (.map kf ag fts es) (.map b) (one b)
 | poolNil (fts : List FT) : RO c g (.pool fts [] none) (.tuple [.nilslice]) nof
 | pool (fts : List FT) (es : List (List D)) (x : Option Nat) (b i n : Nat) (cp : Option Nat) (z : Nat) (k : Blk) (ps : List VV) (fs : Nat → Option Nat) (hg : g b = some (.cells k)) (hro : k.ro = false) (hz : k.esz = 1) (hz' : z = 1) (h0 : 0 < fts.length) (hn : n = es.length)
   (hcp : ∀ q, cp = some q → n ≤ q ∧ i + q ≤ k.es.length) (hin : i + n ≤ k.es.length) (hc : ∀ (j : Nat) p, ps[j]? = some p → k.es[i + j]? = some [p])
   (hf : ∀ j f, fs j = some f → f ≠ k.fam) (hE : Elems g c.K fts es x ps fs) :
   RO c g (.pool fts es x) (.tuple (.slice b i n cp z :: ps)) (fun f => f = k.fam ∨ ∃ j, fs j = some f)
 | lent (v : VV) : RO c g .lent v nof
 | gone (v : VV) (hv : ∀ b i f, v ≠ .ptr b i f) : RO c g .gone v nof
structure RSt (c : Cx) (h : VHeap) (s : USt) : Prop where
 wf : WF h.get h.next
 len : s.len = c.n
 obj : ∀ o, RO c h.get (s.get o) (c.ρ o) (c.φ o)
 dis : ∀ o o' f, c.φ o f → c.φ o' f → o = o'
 ndK : ∀ o f, c.φ o f → ¬ c.K f
 ltφ : ∀ o f, c.φ o f → f < h.next
 ltK : ∀ f, c.K f → f < h.next
 und : ∀ o, c.n ≤ o → c.ρ o = .undef
def Cx.fams (c : Cx) (f : Nat) : Prop := ∃ o, c.φ o f
def REnv (c : Cx) (g : VG) (e : UEnv) (e' : Env) : Prop := ∀ t, RV c g (e.get t) (Env.get e' t)
end Go.Proofs.Ythlbahcggmbfaaa.V

