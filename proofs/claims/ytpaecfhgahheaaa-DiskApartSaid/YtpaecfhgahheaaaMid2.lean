import Derived.Test.YtpaecfhgahheaaaMid1
set_option linter.unusedVariables false
set_option linter.unusedSimpArgs false

/- disk: the document's call, whole. -/
namespace Go.Proofs.Ytpaecfhgahheaaa.V
variable {R : Type}

theorem size_len (s : ByteArray) : s.size = s.data.toList.length := by simp

theorem named_loop (fu : Nat) (s : ByteArray) (k0 k1 : Option R) : ∀ (n i : Nat), s.size - i < n → i ≤ s.size → s.size ≤ 100000 →
    F35_26 fu s n i k0 k1 = bif hasByte (s.data.toList.drop i) 10 then k0 else k1
  | n + 1, i, hn, hi, hs => by
    rw [F35_26]
    by_cases h : i < s.size
    · have h2 : i < s.data.toList.length := by rw [← size_len]; exact h
      rw [natlt h, cond_true, within_of h, cond_true, Int.toNat_natCast, wrap_succ (by omega), List.drop_eq_getElem_cons h2]
      have hb : byteAt s i = ((s.data.toList[i]).toNat : Int) := by unfold byteAt; rw [List.getD_eq_getElem?_getD, List.getElem?_eq_getElem h2]; rfl
      rw [hb]
      unfold hasByte
      by_cases e : s.data.toList[i] = 10
      · rw [decide_eq_true e, e]; rfl
      · have : ¬ ((s.data.toList[i]).toNat : Int) = 10 := fun h => e (UInt8.toNat_inj.1 (by rw [show (10 : UInt8).toNat = 10 from rfl]; omega))
        rw [decide_eq_false e, eq_false this, cond_false]
        exact named_loop fu s k0 k1 n (i + 1) (by omega) (by omega) hs
    · rw [natge (by omega), cond_false, List.drop_eq_nil_of_le (by rw [← size_len]; omega)]; rfl

theorem named_ok {fu : Nat} {s : ByteArray} (hs : s.size ≤ 3000) (hf : 5000 ≤ fu) (k : Bool → Option R) : F35 fu s k = k (okName s) := by
  rw [F35_eq, Fb35]
  refine (named_loop fu s _ _ fu 0 (by omega) (by omega) (by omega)).trans ?_
  rw [List.drop_zero]
  unfold okName
  cases hasByte s.data.toList 10 with
  | true => rw [cond_true, Bool.not_true, Bool.and_false]
  | false =>
    rw [cond_false, Bool.not_false, Bool.and_true]
    by_cases h1 : 1 ≤ s.size
    · rw [lt_true (show (0 : Int) < ofN s.size by unfold ofN; omega), cond_true, decide_eq_true h1, Bool.true_and]
      by_cases h2 : s.size ≤ 32
      · rw [lt_true (show ofN s.size < 33 by unfold ofN; omega), decide_eq_true h2]
      · rw [lt_false (show ¬ ofN s.size < 33 by unfold ofN; omega), decide_eq_false h2]
    · rw [lt_false (show ¬ (0 : Int) < ofN s.size by unfold ofN; omega), cond_false, decide_eq_false h1]; rfl

theorem row_mk (n : ByteArray) (b : List (List D)) (s : Nat) : [D.str n, D.row b, D.int (s : Int)] = (Fi.mk n b s).row := rfl

theorem do_ok {fu room : Nat} {fl : List Fi} (hf : 5000 ≤ fu) (g : Good fl) (o : List D) (h1 : (cell 1 o).toStr.size ≤ 3000) (h2 : (cell 2 o).toStr.size ≤ 3000) (h3 : (cell 3 o).toRows.length ≤ 3000) (k : List D → Int → Option R) :
    F23 fu (ref room fl) o k = k (ref room (aDo room o fl).2) (aDo room o fl).1 := by
  have hl := g.ln
  have ht := g.to
  rw [F23_eq, Fb23]
  simp only [ref0, ref1]
  unfold aDo
  by_cases c5 : (cell 0 o).toInt = 5
  · rw [eq_true c5, cond_true, if_pos c5, crash_ok (by omega) g]
  rw [eq_false c5, cond_false, if_neg c5]
  rcases at_ok (R := R) (fu := fu) (room := room) (by omega) g (cell 1 o).toStr with ⟨e, h⟩ | ⟨i, f, hi, e, he, h⟩
  · rw [h, le_false (show ¬ (0 : Int) ≤ -1 by omega), cond_false]
    by_cases c0 : (cell 0 o).toInt = 0
    · rw [eq_true c0, cond_true, if_pos c0, named_ok h1 hf]
      unfold aApp fileOf
      rw [e]
      cases hn : okName (cell 1 o).toStr with
      | false => rfl
      | true =>
        rw [Bool.not_true, cond_false, cond_true, used_ok (by omega) g, wrap_of (by unfold ofN; omega) (by unfold ofN; omega)]
        by_cases c : room < tot fl + (cell 3 o).toRows.length
        · rw [lt_true (show (room : Int) < (tot fl : Nat) + ofN (cell 3 o).toRows.length by unfold ofN; omega), if_pos c]; rfl
        · rw [lt_false (show ¬ (room : Int) < (tot fl : Nat) + ofN (cell 3 o).toRows.length by unfold ofN; omega), if_neg c, cond_false, fits_of (by omega) (by omega), cond_true, show (0 : Int) = ((0 : Nat) : Int) from rfl, row_mk, with_ok (by omega) hl]
          rfl
    rw [eq_false c0, cond_false, if_neg c0, lt_true (show (-1 : Int) < 0 by omega), cond_true]
    have : ∀ (p q r s : Int × List Fi), p = (6, fl) → q = (6, fl) → r = (6, fl) → s = (6, fl) → k (ref room fl) 6 = k (ref room (if (cell 0 o).toInt = 1 then p else if (cell 0 o).toInt = 2 then q else if (cell 0 o).toInt = 3 then r else s).2) (if (cell 0 o).toInt = 1 then p else if (cell 0 o).toInt = 2 then q else if (cell 0 o).toInt = 3 then r else s).1 := by
      rintro _ _ _ _ rfl rfl rfl rfl
      split
      · rfl
      · split
        · rfl
        · split <;> rfl
    refine this _ _ _ _ ?_ ?_ ?_ ?_
    · unfold aSync; rw [e]
    · unfold aCut; rw [e]
    · unfold aRem; rw [e]
    · unfold aRen; rw [e]
  · obtain ⟨hm, hn⟩ := lk_some e
    have hs := g.sy f hm
    have hb := mem_tot hm
    have w : within ((i : Nat) : Int) (rows fl).length = true := within_of (by rw [rows_len]; exact hi)
    rw [h, le_true (show (0 : Int) ≤ (i : Nat) by omega), cond_true, w, cond_true, Int.toNat_natCast, he, row0, row1, row2]
    by_cases c0 : (cell 0 o).toInt = 0
    · rw [eq_true c0, cond_true, if_pos c0, named_ok h1 hf]
      unfold aApp fileOf
      rw [e]
      cases hn : okName (cell 1 o).toStr with
      | false => rfl
      | true =>
        rw [Bool.not_true, cond_false, cond_true, used_ok (by omega) g, wrap_of (by unfold ofN; omega) (by unfold ofN; omega)]
        by_cases c : room < tot fl + (cell 3 o).toRows.length
        · rw [lt_true (show (room : Int) < (tot fl : Nat) + ofN (cell 3 o).toRows.length by unfold ofN; omega), if_pos c]; rfl
        · rw [lt_false (show ¬ (room : Int) < (tot fl : Nat) + ofN (cell 3 o).toRows.length by unfold ofN; omega), if_neg c, cond_false, fits_big (by omega) (by omega), cond_true, fits_big (by omega) (by omega), cond_true, row_mk, with_ok (by omega) hl, lk_some e |>.2]
    rw [eq_false c0, cond_false, if_neg c0, lt_false (show ¬ ((i : Nat) : Int) < 0 by omega), cond_false]
    by_cases c1 : (cell 0 o).toInt = 1
    · rw [eq_true c1, cond_true, if_pos c1]
      unfold aSync ofN
      rw [e, row_mk, with_ok (by omega) hl, (lk_some e).2]
    rw [eq_false c1, cond_false, if_neg c1]
    by_cases c2 : (cell 0 o).toInt = 2
    · rw [eq_true c2, cond_true, if_pos c2]
      unfold aCut
      rw [e]
      by_cases d1 : (cell 4 o).toInt < 0
      · simp only [lt_true d1, cond_true, if_pos (show (cell 4 o).toInt < 0 ∨ (f.b.length : Int) < (cell 4 o).toInt from .inl d1)]
      by_cases d2 : (f.b.length : Int) < (cell 4 o).toInt
      · simp only [lt_false d1, cond_false, lt_true (show ofN f.b.length < (cell 4 o).toInt from d2), cond_true, if_pos (show (cell 4 o).toInt < 0 ∨ (f.b.length : Int) < (cell 4 o).toInt from .inr d2)]
      obtain ⟨m, hm⟩ : ∃ m : Nat, (cell 4 o).toInt = (m : Int) := ⟨(cell 4 o).toInt.toNat, by omega⟩
      simp only [if_neg (show ¬ ((cell 4 o).toInt < 0 ∨ (f.b.length : Int) < (cell 4 o).toInt) by omega)]
      rw [lt_false d1, cond_false, lt_false (show ¬ ofN f.b.length < (cell 4 o).toInt from d2), cond_false, hm, ge0_nat, upTo_nat (by omega), Bool.and_self, cond_true, Int.toNat_natCast, part_take, fits_big (by simp; omega) (by omega), cond_true, row_mk, with_ok (by omega) hl, (lk_some e).2]
    rw [eq_false c2, cond_false, if_neg c2]
    by_cases c3 : (cell 0 o).toInt = 3
    · rw [eq_true c3, cond_true, if_pos c3]
      unfold aRem
      rw [e, without_ok (by omega) hl]
    rw [eq_false c3, cond_false, if_neg c3, named_ok h2 hf]
    unfold aRen
    rw [e]
    cases hn2 : okName (cell 2 o).toStr with
    | false => rfl
    | true =>
      rw [Bool.not_true, cond_false, strEq_dec]
      by_cases d : (cell 2 o).toStr = (cell 1 o).toStr
      · simp only [decide_eq_true d, cond_true, if_pos d.symm]
      · simp only [decide_eq_false d, cond_false, cond_true, if_neg (show ¬ (cell 1 o).toStr = (cell 2 o).toStr from fun h => d h.symm)]
        rw [without_ok (by omega) hl]
        simp only [ref0, ref1]
        unfold ofN
        rw [row_mk, with_ok (by omega) (by have := (del_tot (n := (cell 1 o).toStr) fl).2; omega)]

end Go.Proofs.Ytpaecfhgahheaaa.V

/- disk: the disk's functions do it. -/
namespace Go.Proofs.Ytpaecfhgahheaaa.V
variable {R : Type}

theorem key_ok {fu : Nat} (s : ByteArray) (hs : s.size ≤ 4611686018427387904) (k : Bool → Option R) : F28 fu s k = k (okName s) := by
  unfold F28 okName
  have e : hasS s { data := #[10] } = hasByte s.data.toList 10 := rfl
  rw [e]
  by_cases h1 : 1 ≤ s.size
  · rw [le_true (show (1 : Int) ≤ ofN s.size by unfold ofN; omega), cond_true, decide_eq_true h1, Bool.true_and]
    by_cases h2 : s.size ≤ 32
    · rw [le_true (show ofN s.size ≤ 32 by unfold ofN; omega), decide_eq_true h2]; rfl
    · rw [le_false (show ¬ ofN s.size ≤ 32 by unfold ofN; omega), decide_eq_false h2]; rfl
  · rw [le_false (show ¬ (1 : Int) ≤ ofN s.size by unfold ofN; omega), decide_eq_false h1]; rfl

theorem concat_ok {fu : Nat} (hf : 200 ≤ fu) {x y : List (List D)} (hx : x.length ≤ 1200000) (hy : y.length ≤ 1200000) (k : List (List D) → Option R) : F29 fu [[D.row x], [D.row y]] k = k (x ++ y) := by
  unfold F29
  have a1 : ∀ (kk : Int → Option R), F29_58 fu [[D.row x], [D.row y]] (ofN 2) fu 0 0 kk = kk ((x.length + y.length : Nat) : Int) := by
    intro kk
    obtain ⟨m, hm⟩ : ∃ m, fu = m + 3 := ⟨fu - 3, by omega⟩
    conv => lhs; arg 4; rw [hm]
    have e0 : (cell 0 (elem (0 : Int).toNat [[D.row x], [D.row y]])).toRows = x := rfl
    have e1 : (cell 0 (elem (1 : Int).toNat [[D.row x], [D.row y]])).toRows = y := rfl
    have w0 : within 0 [[D.row x], [D.row y]].length = true := rfl
    have w1 : within 1 [[D.row x], [D.row y]].length = true := rfl
    have l0 : decide ((0 : Int) < ofN 2) = true := rfl
    have l1 : decide ((1 : Int) < ofN 2) = true := rfl
    have l2 : decide ((2 : Int) < ofN 2) = false := rfl
    have i0 : IntKind.i64.wrap ((0 : Int) + 1) = 1 := rfl
    have i1 : IntKind.i64.wrap ((1 : Int) + 1) = 2 := rfl
    have s0 : IntKind.i64.wrap (0 + ofN x.length) = (x.length : Int) := by unfold ofN; rw [wrap_of (by omega) (by omega)]; omega
    have s1 : IntKind.i64.wrap ((x.length : Int) + ofN y.length) = ((x.length + y.length : Nat) : Int) := by unfold ofN; rw [wrap_of (by omega) (by omega)]; omega
    rw [F29_58, l0, cond_true, w0, cond_true, e0, s0, lt_false (show ¬ (x.length : Int) < 0 by omega), cond_false, i0, F29_58, l1, cond_true, w1, cond_true, e1, s1, lt_false (show ¬ ((x.length + y.length : Nat) : Int) < 0 by omega), cond_false, i1, F29_58, l2, cond_false]
  have a2 : ∀ (kk : List (List D) → Option R), F29_250 fu [[D.row x], [D.row y]] (ofN 2) fu 0 [] kk = kk (x ++ y) := by
    intro kk
    obtain ⟨m, hm⟩ : ∃ m, fu = m + 3 := ⟨fu - 3, by omega⟩
    conv => lhs; arg 4; rw [hm]
    have e0 : (cell 0 (elem (0 : Int).toNat [[D.row x], [D.row y]])).toRows = x := rfl
    have e1 : (cell 0 (elem (1 : Int).toNat [[D.row x], [D.row y]])).toRows = y := rfl
    have w0 : within 0 [[D.row x], [D.row y]].length = true := rfl
    have w1 : within 1 [[D.row x], [D.row y]].length = true := rfl
    have l0 : decide ((0 : Int) < ofN 2) = true := rfl
    have l1 : decide ((1 : Int) < ofN 2) = true := rfl
    have l2 : decide ((2 : Int) < ofN 2) = false := rfl
    have i0 : IntKind.i64.wrap ((0 : Int) + 1) = 1 := rfl
    have i1 : IntKind.i64.wrap ((1 : Int) + 1) = 2 := rfl
    rw [F29_250, l0, cond_true, w0, cond_true, e0, fits_big (by simp; omega) (by omega), cond_true, i0, F29_250, l1, cond_true, w1, cond_true, e1, fits_big (by simp; omega) (by omega), cond_true, i1, F29_250, l2, cond_false, List.nil_append]
  refine (a1 _).trans ?_
  have r : roomN ((x.length + y.length : Nat) : Int) 1 = true := by unfold roomN maxBytes; exact decide_eq_true ⟨by omega, by omega, by omega⟩
  rw [r, cond_true]
  exact a2 _

section
variable {es : List (D × List D)} {fl : List Fi} {fu room : Nat}

theorem fileOf_some {n : ByteArray} {f : Fi} (e : lk n fl = some f) : fileOf n fl = f := by unfold fileOf; rw [e]
theorem fileOf_none {n : ByteArray} (e : lk n fl = none) : fileOf n fl = ⟨n, [], 0⟩ := by unfold fileOf; rw [e]
theorem fileOf_n (n : ByteArray) (fl : List Fi) : (fileOf n fl).n = n := by
  cases e : lk n fl with
  | none => rw [fileOf_none e]
  | some f => rw [fileOf_some e]; exact (lk_some e).2

/-- What the disk sees of a file. -/
theorem Rep.file (h : Rep es fl) (g : Good fl) (n : ByteArray) : (cell 0 (mget es (.str n) [.nil, .int 0])).toRows = (fileOf n fl).b ∧ (cell 1 (mget es (.str n) [.nil, .int 0])).toInt = ((fileOf n fl).s : Nat) := by
  cases e : lk n fl with
  | none => rw [fileOf_none e, h.getn e]; exact ⟨rfl, rfl⟩
  | some f => rw [fileOf_some e, h.get g.so e]; exact ⟨rfl, rfl⟩

theorem fileOf_b (n : ByteArray) : (fileOf n fl).b.length = lenOf n fl := by
  unfold lenOf
  cases e : lk n fl with
  | none => rw [fileOf_none e]; rfl
  | some f => rw [fileOf_some e]

theorem fileOf_s (g : Good fl) (n : ByteArray) : (fileOf n fl).s ≤ (fileOf n fl).b.length := by
  cases e : lk n fl with
  | none => rw [fileOf_none e]; exact Nat.le_refl _
  | some f => rw [fileOf_some e]; exact g.sy f (lk_some e).1

theorem fileOf_le (g : Good fl) (n : ByteArray) : (fileOf n fl).b.length ≤ tot fl := by
  rw [fileOf_b, tot_del (n := n) g.so]; omega

theorem append_ok (hf : 200 ≤ fu) (h : Rep es fl) (g : Good fl) (hr : room ≤ 1048576) (n : ByteArray) (hn : n.size ≤ 4611686018427387904) (b : List (List D)) : ∃ es', Rep es' (aApp room n b fl).2 ∧ ∀ k : Int → List (D × List D) → Option R, F12 fu n b room es k = k (aApp room n b fl).1 es' := by
  have ht := g.to
  unfold aApp
  cases hk : okName n with
  | false =>
    refine ⟨es, h, fun k => ?_⟩
    rw [F12_eq, Fb12, key_ok n hn, hk]; rfl
  | true =>
    rw [cond_true]
    obtain ⟨q1, q2⟩ := h.file g n
    have hs := fileOf_s g n
    have hb := fileOf_le g n
    by_cases c : room < tot fl + b.length
    · rw [if_pos c]
      refine ⟨es, h, fun k => ?_⟩
      rw [F12_eq, Fb12, key_ok n hn, hk, Bool.not_true, cond_false, h.ok g, cond_true, h.used g, wrap_of (by omega) (by omega), lt_true (show (room : Int) - (tot fl : Nat) < ofN b.length by unfold ofN; omega)]; rfl
    · rw [if_neg c]
      refine ⟨_, h.put g.so ⟨n, (fileOf n fl).b ++ b, (fileOf n fl).s⟩, fun k => ?_⟩
      rw [F12_eq, Fb12, key_ok n hn, hk, Bool.not_true, cond_false, h.ok g, cond_true, h.used g, wrap_of (by omega) (by omega), lt_false (show ¬ (room : Int) - (tot fl : Nat) < ofN b.length by unfold ofN; omega), cond_false, q1, q2, concat_ok hf (by omega) (by omega)]

theorem sync_ok (h : Rep es fl) (g : Good fl) (n : ByteArray) : ∃ es', Rep es' (aSync n fl).2 ∧ ∀ k : Int → List (D × List D) → Option R, F27 fu n room es k = k (aSync n fl).1 es' := by
  obtain ⟨q1, q2⟩ := h.file g n
  unfold aSync
  cases e : lk n fl with
  | none => exact ⟨es, h, fun k => by rw [F27_eq, Fb27, h.has, e]; rfl⟩
  | some f =>
    rw [fileOf_some e] at q1
    exact ⟨_, h.put g.so ⟨n, f.b, f.b.length⟩, fun k => by rw [F27_eq, Fb27, h.has, e, q1]; rfl⟩

theorem cut_ok (h : Rep es fl) (g : Good fl) (n : ByteArray) (c : Int) : ∃ es', Rep es' (aCut n c fl).2 ∧ ∀ k : Int → List (D × List D) → Option R, F14 fu n c room es k = k (aCut n c fl).1 es' := by
  obtain ⟨q1, q2⟩ := h.file g n
  unfold aCut
  cases e : lk n fl with
  | none => exact ⟨es, h, fun k => by rw [F14_eq, Fb14, h.has, e]; rfl⟩
  | some f =>
    rw [fileOf_some e] at q1
    by_cases d1 : c < 0
    · exact ⟨es, by simp only [if_pos (show c < 0 ∨ (f.b.length : Int) < c from .inl d1)]; exact h, fun k => by simp only [if_pos (show c < 0 ∨ (f.b.length : Int) < c from .inl d1)]; rw [F14_eq, Fb14, h.has, e, lt_true d1]; rfl⟩
    by_cases d2 : (f.b.length : Int) < c
    · exact ⟨es, by simp only [if_pos (show c < 0 ∨ (f.b.length : Int) < c from .inr d2)]; exact h, fun k => by simp only [if_pos (show c < 0 ∨ (f.b.length : Int) < c from .inr d2)]; rw [F14_eq, Fb14, h.has, e, lt_false d1, q1, lt_true (show ofN f.b.length < c from d2)]; rfl⟩
    obtain ⟨m, rfl⟩ : ∃ m : Nat, c = (m : Int) := ⟨c.toNat, by omega⟩
    refine ⟨_, by simp only [if_neg (show ¬ ((m : Int) < 0 ∨ (f.b.length : Int) < m) by omega)]; exact h.put g.so ⟨n, f.b.take (m : Int).toNat, (m : Int).toNat⟩, fun k => ?_⟩
    simp only [if_neg (show ¬ ((m : Int) < 0 ∨ (f.b.length : Int) < m) by omega)]
    rw [F14_eq, Fb14, h.has, e, Option.isSome_some, Bool.not_true, cond_false, lt_false d1, cond_false, q1, lt_false (show ¬ ofN f.b.length < (m : Int) from d2), cond_false, ge0_nat, upTo_nat (by omega), eq_true rfl]
    by_cases z : m = 0
    · subst z; rfl
    · rw [eq_false (show ¬ (m : Int) = 0 by omega)]; simp only [Bool.and_self, cond_true, cond_false, Int.toNat_natCast, part_take]

theorem remove_ok (h : Rep es fl) (g : Good fl) (n : ByteArray) : ∃ es', Rep es' (aRem n fl).2 ∧ ∀ k : Int → List (D × List D) → Option R, F39 fu n room es k = k (aRem n fl).1 es' := by
  unfold aRem
  cases e : lk n fl with
  | none => exact ⟨es, h, fun k => by rw [F39_eq, Fb39, h.has, e]; rfl⟩
  | some f => exact ⟨_, h.del g.so n, fun k => by rw [F39_eq, Fb39, h.has, e]; rfl⟩

theorem rename_ok (h : Rep es fl) (g : Good fl) (n t : ByteArray) (ht : t.size ≤ 4611686018427387904) : ∃ es', Rep es' (aRen n t fl).2 ∧ ∀ k : Int → List (D × List D) → Option R, F19 fu n t room es k = k (aRen n t fl).1 es' := by
  obtain ⟨q1, q2⟩ := h.file g n
  unfold aRen
  cases e : lk n fl with
  | none => exact ⟨es, h, fun k => by rw [F19_eq, Fb19, h.has, e]; rfl⟩
  | some f =>
    rw [fileOf_some e] at q1
    cases hk : okName t with
    | false => exact ⟨es, h, fun k => by rw [F19_eq, Fb19, h.has, e, Option.isSome_some, Bool.not_true, cond_false, key_ok t ht, hk]; rfl⟩
    | true =>
      simp only [cond_true]
      by_cases d : n = t
      · exact ⟨es, by rw [if_pos d]; exact h, fun k => by rw [F19_eq, Fb19, h.has, e, Option.isSome_some, Bool.not_true, cond_false, key_ok t ht, hk, strEq_dec, decide_eq_true d, if_pos d]; rfl⟩
      · refine ⟨_, by rw [if_neg d]; exact (h.del g.so n).put (del_so g.so) ⟨t, f.b, f.b.length⟩, fun k => ?_⟩
        rw [F19_eq, Fb19, h.has, e, Option.isSome_some, Bool.not_true, cond_false, key_ok t ht, hk, strEq_dec, decide_eq_false d, if_neg d, q1]; rfl

theorem read_ok (h : Rep es fl) (g : Good fl) (n : ByteArray) (k : Int → List (List D) → Option R) : F16 fu n room es k = match lk n fl with | some f => k 0 f.b | none => k 6 [] := by
  obtain ⟨q1, q2⟩ := h.file g n
  rw [F16_eq, Fb16, h.has]
  cases e : lk n fl with
  | none => rfl
  | some f =>
    rw [fileOf_some e] at q1
    have := mem_tot (lk_some e).1
    have := g.to
    rw [Option.isSome_some, Bool.not_true, cond_false, q1, fits_big (by omega) (by omega)]; rfl

theorem loose_ok (h : Rep es fl) (g : Good fl) (n : ByteArray) (k : Int → Option R) : F15 fu n room es k = k (((fileOf n fl).b.length - (fileOf n fl).s : Nat) : Int) := by
  obtain ⟨q1, q2⟩ := h.file g n
  have hs := fileOf_s g n
  have hb := fileOf_le g n
  have := g.to
  rw [F15_eq, Fb15, q1, q2]
  unfold ofN
  rw [wrap_of (by omega) (by omega)]
  congr 1; omega

theorem put_perm {p r : List Fi} {x y : Fi} (h : (p ++ x :: r).Pairwise Lt) (hn : y.n = x.n) : (put y (p ++ x :: r)).Perm (p ++ y :: r) := by
  have h1 := del_perm h (show x ∈ p ++ x :: r by simp)
  have h2 : (p ++ x :: r).Perm (x :: (p ++ r)) := List.perm_middle
  have h3 : (del y.n (p ++ x :: r)).Perm (p ++ r) := by rw [hn]; exact List.Perm.cons_inv (h1.symm.trans h2)
  exact (ins_perm y _).trans ((h3.cons y).trans List.perm_middle.symm)

theorem keyrow (p r : List Fi) (x : Fi) : (cell 0 (elem p.length ((p ++ x :: r).map fun f => [D.str f.n]))).toStr = x.n := by
  unfold elem
  rw [List.getD_eq_getElem?_getD, List.getElem?_map, List.getElem?_append_right (Nat.le_refl _), Nat.sub_self]; rfl

theorem lt_swap {p r : List Fi} {x y : Fi} (h : (p ++ x :: r).Pairwise Lt) (hn : y.n = x.n) : (p ++ y :: r).Pairwise Lt := by
  have : ((p ++ x :: r).map fun f => f.n.data.toList).Pairwise (· < ·) := List.pairwise_map.2 h
  have e : (p ++ x :: r).map (fun f => f.n.data.toList) = (p ++ y :: r).map fun f => f.n.data.toList := by simp [hn]
  rw [e] at this
  exact (List.pairwise_map (f := fun f : Fi => f.n.data.toList)).1 this

theorem tear_loop (keep : List (List D)) : ∀ (r p : List Fi) (n : Nat) (y : List (D × List D)), r.length < n → (p ++ r).length ≤ 1000 → (∀ f ∈ r, f.s ≤ f.b.length ∧ f.b.length ≤ 2000000) → (p ++ r).Pairwise Lt → Rep y (p ++ r) →
    ∃ es', Rep es' (p ++ crA keep p.length r) ∧ ∀ k : List (D × List D) → Option R, F17_6 fu keep (ofN (p ++ r).length) ((p ++ r).map fun f => [D.str f.n]) n p.length y k = k es'
  | [], p, n + 1, y, _, _, _, _, h => by
    refine ⟨y, h, fun k => ?_⟩
    rw [F17_6, natge (by simp)]; rfl
  | x :: r, p, n + 1, y, hn, hl, hs, hp, h => by
    have h1 : p.length < (p ++ x :: r).length := by simp
    have h2 : p.length ≤ 1000 := by simp at hl; omega
    obtain ⟨hx, hx2⟩ := hs x (List.mem_cons_self ..)
    have hc := crN_le (keep := keep) (i := p.length) hx
    have hg : mget y (D.str x.n) [D.nil, D.int 0] = [.row x.b, .int x.s] := h.get hp (lk_of hp (by simp))
    have hput : Rep (mput y (.str x.n) [.row (x.b.take (crN keep p.length x)), .int (crN keep p.length x)]) (p ++ crF keep p.length x :: r) :=
      (h.put hp (crF keep p.length x)).trans ((put_perm hp (y := crF keep p.length x) rfl).map Fi.ent)
    have hk : ((p ++ x :: r).map fun f => [D.str f.n]) = ((p ++ [crF keep p.length x]) ++ r).map fun f => [D.str f.n] := by simp [crF]
    obtain ⟨es', g1, g2⟩ := tear_loop keep r (p ++ [crF keep p.length x]) n _ (by simp at hn; omega) (by simpa using hl) (fun f hf => hs f (List.mem_cons_of_mem _ hf)) (by rw [List.append_assoc]; exact lt_swap hp (y := crF keep p.length x) rfl) (by rw [List.append_assoc]; exact hput)
    have hlen : (p ++ [crF keep p.length x] ++ r).length = (p ++ x :: r).length := by simp
    rw [← hk, hlen, show (p ++ [crF keep p.length x]).length = p.length + 1 by simp] at g2
    rw [List.append_assoc, List.length_append, List.length_singleton] at g1
    refine ⟨es', g1, fun k => ?_⟩
    replace g2 := g2 k
    have w : within (p.length : Int) ((p ++ x :: r).map fun f => [D.str f.n]).length = true := within_of (by rw [List.length_map]; exact h1)
    have c0 : (cell 0 [D.row x.b, D.int x.s]).toRows = x.b := rfl
    have c1 : (cell 1 [D.row x.b, D.int x.s]).toInt = x.s := rfl
    have fin : ∀ m : Nat, m = crN keep p.length x → (bif decide ((m : Int) = 0) && decide ((m : Int) = 0) then (F17_6 fu keep (ofN (p ++ x :: r).length) ((p ++ x :: r).map fun f => [D.str f.n]) n ((p.length + 1 : Nat) : Int) (mput y (D.str x.n) [D.row [], D.int (m : Int)]) k) else bif decide ((0 : Int) ≤ 0 ∧ 0 ≤ (m : Int)) && upTo (m : Int) x.b.length && decide ((m : Int) = (m : Int)) then (F17_6 fu keep (ofN (p ++ x :: r).length) ((p ++ x :: r).map fun f => [D.str f.n]) n ((p.length + 1 : Nat) : Int) (mput y (D.str x.n) [D.row (part x.b 0 (m : Int).toNat), D.int (m : Int)]) k) else none) = k es' := by
      intro m hm
      by_cases z : m = 0
      · rw [eq_true (show (m : Int) = 0 by omega)]
        rw [← hm, z, List.take_zero] at g2
        subst z
        exact g2
      · rw [eq_false (show ¬ (m : Int) = 0 by omega), Bool.and_self, cond_false, ge0_nat, upTo_nat (by omega), eq_true rfl, Bool.and_self, Bool.and_self, cond_true, Int.toNat_natCast, part_take]
        rw [← hm] at g2
        exact g2
    rw [F17_6, natlt h1, cond_true, w, cond_true, Int.toNat_natCast, keyrow, hg, c0, c1, wrap_succ (by omega)]
    by_cases d1 : p.length < keep.length
    · rw [natlt d1, cond_true, within_of d1, cond_true]
      by_cases d2 : 0 < (cell 0 (elem p.length keep)).toInt
      · obtain ⟨e1, e2⟩ := keep_num hx hx2 d2
        have e3 : crN keep p.length x = x.s + (cell 0 (elem p.length keep)).toInt.toNat % (x.b.length - x.s + 1) := by unfold crN; rw [if_pos ⟨d1, d2⟩]
        rw [lt_true d2, cond_true, cond_true, e1, cond_false, e2, ← e3]
        exact fin _ rfl
      · have e3 : crN keep p.length x = x.s := by unfold crN; rw [if_neg (fun h => d2 h.2)]
        rw [lt_false d2, cond_false]
        exact fin _ e3.symm
    · have e3 : crN keep p.length x = x.s := by unfold crN; rw [if_neg (fun h => d1 h.1)]
      rw [natge (by omega), cond_false]
      exact fin _ e3.symm

theorem tear_ok (hf : 200 ≤ fu) (h : Rep es fl) (g : Good fl) (keep : List (List D)) : ∃ es', Rep es' (crA keep 0 fl) ∧ ∀ k : List (D × List D) → Option R, F17 fu keep room es k = k es' := by
  have := g.ln; have := g.to
  obtain ⟨es', h1, h2⟩ := tear_loop (R := R) (fu := fu) keep fl [] fu es (by omega) (by simp; omega) (fun f hm => ⟨g.sy f hm, by have := mem_tot hm; omega⟩) g.so h
  refine ⟨es', h1, fun k => ?_⟩
  rw [F17_eq, Fb17, h.ok g, cond_true, h.keys g.so, List.length_map]
  exact h2 k
end

end Go.Proofs.Ytpaecfhgahheaaa.V

/- disk: a call keeps a row of files good; the disk's call, and what both tell, are alike; awake. -/
namespace Go.Proofs.Ytpaecfhgahheaaa.V
variable {R : Type}

theorem Good.nil : Good [] := ⟨.nil, by simp, by simp, by simp [tot], by simp⟩
theorem Rep.nil : Rep [] [] := .refl _
theorem Good.one {n : ByteArray} {b : List (List D)} {s : Nat} (h1 : n.size ≤ 32) (h2 : s ≤ b.length) (h3 : b.length ≤ 1048576) : Good [⟨n, b, s⟩] :=
  ⟨List.pairwise_singleton .., by simpa using h1, by simpa using h2, by simpa [tot] using h3, by simp⟩

theorem Good.put {fl : List Fi} (g : Good fl) {f : Fi} (h1 : f.n.size ≤ 32) (h2 : f.s ≤ f.b.length) (h3 : f.b.length + tot (V.del f.n fl) ≤ 1048576) (h4 : (V.del f.n fl).length + 1 ≤ 100) : Good (V.put f fl) := by
  refine ⟨put_so g.so, fun x hx => ?_, fun x hx => ?_, by rw [(put_tot f fl).1]; exact h3, by rw [(put_tot f fl).2]; exact h4⟩
  · rcases mem_put.1 hx with rfl | hx
    · exact h1
    · exact g.nm x hx.1
  · rcases mem_put.1 hx with rfl | hx
    · exact h2
    · exact g.sy x hx.1

theorem Good.del {fl : List Fi} (g : Good fl) (n : ByteArray) : Good (V.del n fl) :=
  ⟨del_so g.so, fun x hx => g.nm x (mem_del.1 hx).1, fun x hx => g.sy x (mem_del.1 hx).1, Nat.le_trans (del_tot fl).1 g.to, Nat.le_trans (del_tot fl).2 g.ln⟩

theorem crA_names (keep : List (List D)) : ∀ (fl : List Fi) (i : Nat), (crA keep i fl).map (·.n) = fl.map (·.n)
  | [], _ => rfl
  | f :: r, i => by
    show (crF keep i f).n :: (crA keep (i + 1) r).map (·.n) = _
    rw [crA_names keep r (i + 1)]; rfl

theorem crA_len (keep : List (List D)) (fl : List Fi) (i : Nat) : (crA keep i fl).length = fl.length := by
  have := congrArg List.length (crA_names keep fl i); simpa using this

theorem crA_mem {keep : List (List D)} : ∀ {fl : List Fi} {i : Nat} {f : Fi}, f ∈ crA keep i fl → ∃ g ∈ fl, ∃ j, f = crF keep j g
  | [], _, _, h => by cases h
  | x :: r, i, f, h => by
    rcases List.mem_cons.1 h with rfl | h
    · exact ⟨x, List.mem_cons_self .., i, rfl⟩
    · obtain ⟨g, h1, j, h2⟩ := crA_mem h
      exact ⟨g, List.mem_cons_of_mem _ h1, j, h2⟩

theorem crA_tot (keep : List (List D)) : ∀ (fl : List Fi) (i : Nat), tot (crA keep i fl) ≤ tot fl
  | [], _ => Nat.le_refl _
  | f :: r, i => by
    have := crA_tot keep r (i + 1)
    have h2 : (f.b.take (crN keep i f)).length ≤ f.b.length := by simp; omega
    show (f.b.take (crN keep i f)).length + tot (crA keep (i + 1) r) ≤ f.b.length + tot r
    omega

theorem Good.cr {fl : List Fi} (g : Good fl) (keep : List (List D)) : Good (crA keep 0 fl) := by
  refine ⟨?_, fun f hf => ?_, fun f hf => ?_, Nat.le_trans (crA_tot keep fl 0) g.to, by rw [crA_len]; exact g.ln⟩
  · have h1 : ((fl.map (·.n)).map fun n => n.data.toList).Pairwise (· < ·) := by
      rw [List.map_map]; exact (List.pairwise_map (f := fun f : Fi => f.n.data.toList)).2 g.so
    rw [← crA_names keep fl 0, List.map_map] at h1
    exact (List.pairwise_map (f := fun f : Fi => f.n.data.toList)).1 h1
  · obtain ⟨x, hx, j, rfl⟩ := crA_mem hf
    exact g.nm x hx
  · obtain ⟨x, hx, j, rfl⟩ := crA_mem hf
    have := crN_le (keep := keep) (i := j) (g.sy x hx)
    show crN keep j x ≤ (x.b.take (crN keep j x)).length
    simp; omega

theorem okName_le {n : ByteArray} (h : okName n = true) : n.size ≤ 32 := by
  unfold okName at h
  simp only [Bool.and_eq_true, decide_eq_true_eq] at h
  exact h.1.2

section
variable {es : List (D × List D)} {fl : List Fi} {fu room : Nat}

theorem app_good (g : Good fl) (hl : fl.length ≤ 99) (hr : room ≤ 1048576) (n : ByteArray) (b : List (List D)) : Good (aApp room n b fl).2 ∧ (aApp room n b fl).2.length ≤ fl.length + 1 := by
  unfold aApp
  cases hk : okName n with
  | false => exact ⟨g, Nat.le_succ _⟩
  | true =>
    rw [cond_true]
    by_cases c : room < tot fl + b.length
    · rw [if_pos c]; exact ⟨g, Nat.le_succ _⟩
    · rw [if_neg c]
      have h1 := tot_del (n := n) g.so
      have h2 := fileOf_b (fl := fl) n
      have h3 := fileOf_s g n
      have h4 := (del_tot (n := n) fl).2
      refine ⟨g.put (okName_le hk) (by show (fileOf n fl).s ≤ ((fileOf n fl).b ++ b).length; simp; omega) (by show ((fileOf n fl).b ++ b).length + tot (del n fl) ≤ _; simp; omega) (by show (del n fl).length + 1 ≤ 100; omega), ?_⟩
      show (put _ fl).length ≤ _
      rw [(put_tot _ fl).2]
      show (del n fl).length + 1 ≤ _
      omega

theorem put_old (g : Good fl) {n : ByteArray} {f : Fi} (e : lk n fl = some f) (b : List (List D)) (s : Nat) (hb : b.length ≤ f.b.length) (hs : s ≤ b.length) : Good (put ⟨n, b, s⟩ fl) ∧ (put ⟨n, b, s⟩ fl).length ≤ fl.length + 1 := by
  have h1 := tot_del (n := n) g.so
  have h2 := del_len g.so e
  have h3 := g.ln
  have h4 := g.to
  have h5 := g.nm f (lk_some e).1
  rw [(lk_some e).2] at h5
  have h6 : lenOf n fl = f.b.length := by unfold lenOf; rw [e]
  refine ⟨g.put h5 hs (by show b.length + tot (del n fl) ≤ _; omega) (by show (del n fl).length + 1 ≤ 100; omega), ?_⟩
  rw [(put_tot _ fl).2]
  show (del n fl).length + 1 ≤ _
  omega

theorem sync_good (g : Good fl) (n : ByteArray) : Good (aSync n fl).2 ∧ (aSync n fl).2.length ≤ fl.length + 1 := by
  unfold aSync
  cases e : lk n fl with
  | none => exact ⟨g, Nat.le_succ _⟩
  | some f => exact put_old g e _ _ (Nat.le_refl _) (Nat.le_refl _)

theorem cut_good (g : Good fl) (n : ByteArray) (c : Int) : Good (aCut n c fl).2 ∧ (aCut n c fl).2.length ≤ fl.length + 1 := by
  unfold aCut
  cases e : lk n fl with
  | none => exact ⟨g, Nat.le_succ _⟩
  | some f =>
    by_cases d : c < 0 ∨ (f.b.length : Int) < c
    · simp only [if_pos d]; exact ⟨g, Nat.le_succ _⟩
    · simp only [if_neg d]
      exact put_old g e _ _ (by simp; omega) (by simp; omega)

theorem rem_good (g : Good fl) (n : ByteArray) : Good (aRem n fl).2 ∧ (aRem n fl).2.length ≤ fl.length + 1 := by
  unfold aRem
  cases e : lk n fl with
  | none => exact ⟨g, Nat.le_succ _⟩
  | some f => exact ⟨g.del n, Nat.le_trans (del_tot fl).2 (Nat.le_succ _)⟩

theorem ren_good (g : Good fl) (n t : ByteArray) : Good (aRen n t fl).2 ∧ (aRen n t fl).2.length ≤ fl.length + 1 := by
  unfold aRen
  cases e : lk n fl with
  | none => exact ⟨g, Nat.le_succ _⟩
  | some f =>
    cases hk : okName t with
    | false => exact ⟨g, Nat.le_succ _⟩
    | true =>
      simp only [cond_true]
      by_cases d : n = t
      · rw [if_pos d]; exact ⟨g, Nat.le_succ _⟩
      · rw [if_neg d]
        have h1 := tot_del (n := n) g.so
        have h2 := del_len g.so e
        have h3 := g.ln
        have h4 := g.to
        have h6 : lenOf n fl = f.b.length := by unfold lenOf; rw [e]
        have h7 := del_tot (n := t) (del n fl)
        refine ⟨(g.del n).put (okName_le hk) (Nat.le_refl _) (by show f.b.length + tot (del t (del n fl)) ≤ _; omega) (by show (del t (del n fl)).length + 1 ≤ 100; omega), ?_⟩
        show (put _ (del n fl)).length ≤ _
        rw [(put_tot _ _).2]
        show (del t (del n fl)).length + 1 ≤ _
        omega

theorem do_good (g : Good fl) (hl : fl.length ≤ 99) (hr : room ≤ 1048576) (o : List D) : Good (aDo room o fl).2 ∧ (aDo room o fl).2.length ≤ fl.length + 1 := by
  unfold aDo
  split
  · exact ⟨g.cr _, by show (crA _ 0 fl).length ≤ _; rw [crA_len]; omega⟩
  split
  · exact app_good g hl hr _ _
  split
  · exact sync_good g _
  split
  · exact cut_good g _ _
  split
  · exact rem_good g _
  · exact ren_good g _ _

theorem doD_ok (hf : 200 ≤ fu) (h : Rep es fl) (g : Good fl) (hr : room ≤ 1048576) (o : List D) (h1 : (cell 1 o).toStr.size ≤ 4611686018427387904) (h2 : (cell 2 o).toStr.size ≤ 4611686018427387904) :
    ∃ es', Rep es' (aDo room o fl).2 ∧ ∀ k : Int → List (D × List D) → Option R, F24 fu o room es k = k (aDo room o fl).1 es' := by
  unfold aDo
  by_cases c5 : (cell 0 o).toInt = 5
  · rw [if_pos c5]
    obtain ⟨es', q1, q2⟩ := tear_ok (R := R) (room := room) hf h g (cell 5 o).toRows
    refine ⟨es', q1, fun k => ?_⟩
    rw [F24_eq, Fb24, eq_false (show ¬ (cell 0 o).toInt = 0 by omega), cond_false, eq_false (show ¬ (cell 0 o).toInt = 1 by omega), cond_false, eq_false (show ¬ (cell 0 o).toInt = 2 by omega), cond_false, eq_false (show ¬ (cell 0 o).toInt = 3 by omega), cond_false, eq_true c5, cond_true, q2]
  rw [if_neg c5]
  by_cases c0 : (cell 0 o).toInt = 0
  · rw [if_pos c0]
    obtain ⟨es', q1, q2⟩ := append_ok (R := R) (room := room) hf h g hr (cell 1 o).toStr h1 (cell 3 o).toRows
    exact ⟨es', q1, fun k => by rw [F24_eq, Fb24, eq_true c0, cond_true, q2]⟩
  rw [if_neg c0]
  by_cases c1 : (cell 0 o).toInt = 1
  · rw [if_pos c1]
    obtain ⟨es', q1, q2⟩ := sync_ok (R := R) (fu := fu) (room := room) h g (cell 1 o).toStr
    exact ⟨es', q1, fun k => by rw [F24_eq, Fb24, eq_false c0, cond_false, eq_true c1, cond_true, q2]⟩
  rw [if_neg c1]
  by_cases c2 : (cell 0 o).toInt = 2
  · rw [if_pos c2]
    obtain ⟨es', q1, q2⟩ := cut_ok (R := R) (fu := fu) (room := room) h g (cell 1 o).toStr (cell 4 o).toInt
    exact ⟨es', q1, fun k => by rw [F24_eq, Fb24, eq_false c0, cond_false, eq_false c1, cond_false, eq_true c2, cond_true, q2]⟩
  rw [if_neg c2]
  by_cases c3 : (cell 0 o).toInt = 3
  · rw [if_pos c3]
    obtain ⟨es', q1, q2⟩ := remove_ok (R := R) (fu := fu) (room := room) h g (cell 1 o).toStr
    exact ⟨es', q1, fun k => by rw [F24_eq, Fb24, eq_false c0, cond_false, eq_false c1, cond_false, eq_false c2, cond_false, eq_true c3, cond_true, q2]⟩
  rw [if_neg c3]
  obtain ⟨es', q1, q2⟩ := rename_ok (R := R) (fu := fu) (room := room) h g (cell 1 o).toStr (cell 2 o).toStr h2
  exact ⟨es', q1, fun k => by rw [F24_eq, Fb24, eq_false c0, cond_false, eq_false c1, cond_false, eq_false c2, cond_false, eq_false c3, cond_false, eq_false c5, cond_false, q2]⟩

theorem equal_refl (fu : Nat) (b : List (List D)) (k : Bool → Option R) : F18 fu b b k = k true := by rw [F18_eq, Fb18, strEq_refl]

theorem same_loop (h : Rep es fl) (g : Good fl) (k0 k1 : Option R) : ∀ (r p : List Fi) (n : Nat), fl = p ++ r → r.length < n →
    F25_122 fu (rows fl) (ofN (rows fl).length) room es (fl.map fun f => [D.str f.n]) n p.length k0 k1 = k1
  | [], p, n + 1, e, hn => by
    rw [F25_122, natge (by rw [rows_len, e]; simp)]; rfl
  | x :: r, p, n + 1, e, hn => by
    have h1 : p.length < fl.length := by rw [e]; simp
    have hx : x ∈ fl := by rw [e]; simp
    have hl := g.ln
    have ht := g.to
    have hb := mem_tot hx
    have hs := g.sy x hx
    have e1 : elem p.length (rows fl) = x.row := by rw [e]; exact elem_mid ..
    have e2 : (cell 0 (elem p.length (fl.map fun f => [D.str f.n]))).toStr = x.n := by rw [e]; exact keyrow ..
    have e3 : lk x.n fl = some x := lk_of g.so hx
    rw [F25_122, natlt (by rw [rows_len]; exact h1), cond_true, within_of (by rw [rows_len]; exact h1), cond_true, Int.toNat_natCast, e1, row0, row1, row2, read_ok h g, e3]
    show (bif within (p.length : Int) (fl.map fun f => [D.str f.n]).length then _ else none) = k1
    rw [within_of (by rw [List.length_map]; exact h1), cond_true, e2, strEq_refl, Bool.not_true, cond_false, eq_true (show (0 : Int) = 0 from rfl), Bool.not_true, cond_false, equal_refl, Bool.not_true, cond_false, loose_ok h g, fileOf_some e3]
    have e4 : IntKind.i64.wrap (ofN x.b.length - (x.s : Int)) = ((x.b.length - x.s : Nat) : Int) := by unfold ofN; rw [wrap_of (by omega) (by omega)]; omega
    rw [e4, eq_true rfl, Bool.not_true, cond_false, wrap_succ (by omega)]
    have := same_loop h g k0 k1 r (p ++ [x]) n (by simpa using e) (by simp at hn; omega)
    rw [List.length_append] at this
    exact this

theorem same_ok (hf : 200 ≤ fu) (h : Rep es fl) (g : Good fl) {room2 : Nat} (k : Bool → Option R) : F25 fu (ref room fl) room2 es k = k true := by
  have hl := g.ln
  rw [F25_eq, Fb25]
  simp only [ref0, ref1]
  rw [h.ok g, cond_true, h.keys g.so, eq_true (show ofN (fl.map fun f => [D.str f.n]).length = ofN (rows fl).length by rw [rows_len, List.length_map]), Bool.not_true, cond_false, cond_true, used_ok (by omega) g, h.used g, eq_true rfl, Bool.not_true, cond_false]
  exact same_loop (room := room2) h g (k false) (k true) fl [] fu rfl (by omega)

def nA : ByteArray := { data := #[97] }

theorem awake_ok (hf : 200 ≤ fu) (k : Bool → Option R) : F10 fu k = k true := by
  rw [F10_eq, Fb10]
  have e0 : ∀ kk : Int → Option R, F11 fu 100 kk = kk ((100 : Nat) : Int) := fun kk => rfl
  rw [e0]
  have hn : nA.size ≤ 4611686018427387904 := by decide
  have hA : nA.size ≤ 32 := by decide
  obtain ⟨s1, r1, q1⟩ := append_ok (R := R) (fu := fu) (room := 100) hf Rep.nil Good.nil (by omega) nA hn [[D.int 1], [D.int 2], [D.int 3]]
  have a1 : aApp 100 nA [[D.int 1], [D.int 2], [D.int 3]] [] = (0, [⟨nA, [[D.int 1], [D.int 2], [D.int 3]], 0⟩]) := rfl
  rw [a1] at r1 q1
  have g1 : Good [⟨nA, [[D.int 1], [D.int 2], [D.int 3]], 0⟩] := Good.one hA (by simp) (by simp)
  obtain ⟨s2, r2, q2⟩ := sync_ok (R := R) (fu := fu) (room := 100) r1 g1 nA
  have a2 : aSync nA [⟨nA, [[D.int 1], [D.int 2], [D.int 3]], 0⟩] = (0, [⟨nA, [[D.int 1], [D.int 2], [D.int 3]], 3⟩]) := rfl
  rw [a2] at r2 q2
  have g2 : Good [⟨nA, [[D.int 1], [D.int 2], [D.int 3]], 3⟩] := Good.one hA (by simp) (by simp)
  obtain ⟨s3, r3, q3⟩ := append_ok (R := R) (fu := fu) (room := 100) hf r2 g2 (by omega) nA hn [[D.int 4], [D.int 5], [D.int 6], [D.int 7]]
  have a3 : aApp 100 nA [[D.int 4], [D.int 5], [D.int 6], [D.int 7]] [⟨nA, [[D.int 1], [D.int 2], [D.int 3]], 3⟩] = (0, [⟨nA, [[D.int 1], [D.int 2], [D.int 3], [D.int 4], [D.int 5], [D.int 6], [D.int 7]], 3⟩]) := rfl
  rw [a3] at r3 q3
  have g3 : Good [⟨nA, [[D.int 1], [D.int 2], [D.int 3], [D.int 4], [D.int 5], [D.int 6], [D.int 7]], 3⟩] := Good.one hA (by simp) (by simp)
  obtain ⟨s4, r4, q4⟩ := tear_ok (R := R) (fu := fu) (room := 100) hf r3 g3 [[D.int 2]]
  have a4 : crA [[D.int 2]] 0 [⟨nA, [[D.int 1], [D.int 2], [D.int 3], [D.int 4], [D.int 5], [D.int 6], [D.int 7]], 3⟩] = [⟨nA, [[D.int 1], [D.int 2], [D.int 3], [D.int 4], [D.int 5]], 5⟩] := rfl
  rw [a4] at r4
  have g4 : Good [⟨nA, [[D.int 1], [D.int 2], [D.int 3], [D.int 4], [D.int 5]], 5⟩] := Good.one hA (by simp) (by simp)
  refine (q1 _).trans ?_
  refine (q2 _).trans ?_
  refine (q3 _).trans ?_
  refine (q4 _).trans ?_
  refine (read_ok r4 g4 nA _).trans ?_
  have e1 : lk nA [⟨nA, [[D.int 1], [D.int 2], [D.int 3], [D.int 4], [D.int 5]], 5⟩] = some ⟨nA, [[D.int 1], [D.int 2], [D.int 3], [D.int 4], [D.int 5]], 5⟩ := rfl
  rw [e1]
  simp only [decide_true, cond_true]
  rw [equal_refl, cond_true]
  refine (loose_ok r4 g4 nA _).trans ?_
  rw [fileOf_some e1, r4.ok g4, r4.used g4, r4.keys g4.so]
  rfl

def szO (o : List D) : Nat := (cell 3 o).toRows.length + (cell 1 o).toStr.size + (cell 2 o).toStr.size

theorem few_loop (l : List (List D)) (hs : ∀ o ∈ l, (cell 3 o).toRows.length ≤ 281474976710656 ∧ (cell 1 o).toStr.size ≤ 281474976710656 ∧ (cell 2 o).toStr.size ≤ 281474976710656) : ∀ (d i acc n : Nat), 61 ≤ i + d → d < n → i ≤ 61 → acc ≤ i * 844424930131968 →
    ∃ v : Nat, (∀ k : Int → Option R, F21_58 fu l n acc i k = k v) ∧ acc ≤ v ∧ (l.length ≤ 60 → ∀ j, i ≤ j → j < l.length → szO (elem j l) ≤ v) := by
  intro d
  induction d with
  | zero =>
    intro i acc n h1 hn h2 ha
    obtain ⟨n, rfl⟩ : ∃ m, n = m + 1 := ⟨n - 1, by omega⟩
    refine ⟨acc, fun k => ?_, Nat.le_refl _, fun h j hj hj2 => by omega⟩
    rw [F21_58]
    by_cases c : i < l.length
    · rw [natlt c, cond_true, le_false (show ¬ (i : Int) ≤ 60 by omega)]; rfl
    · rw [natge (by omega)]; rfl
  | succ d ih =>
    intro i acc n h1 hn h2 ha
    obtain ⟨n, rfl⟩ : ∃ m, n = m + 1 := ⟨n - 1, by omega⟩
    by_cases c : i < l.length
    · by_cases c2 : i ≤ 60
      · obtain ⟨b1, b2, b3⟩ := hs _ (elem_mem c)
        have e : IntKind.i64.wrap ((acc : Int) + IntKind.i64.wrap (IntKind.i64.wrap (ofN (cell 3 (elem i l)).toRows.length + ofN (cell 1 (elem i l)).toStr.size) + ofN (cell 2 (elem i l)).toStr.size)) = ((acc + szO (elem i l) : Nat) : Int) := by
          unfold ofN szO
          rw [wrap_of (x := ((cell 3 (elem i l)).toRows.length : Int) + ((cell 1 (elem i l)).toStr.size : Nat)) (by omega) (by omega), wrap_of (x := ((cell 3 (elem i l)).toRows.length : Int) + ((cell 1 (elem i l)).toStr.size : Nat) + ((cell 2 (elem i l)).toStr.size : Nat)) (by omega) (by omega), wrap_of (by omega) (by omega)]
          omega
        obtain ⟨v, v1, v2, v3⟩ := ih (i + 1) (acc + szO (elem i l)) n (by omega) (by omega) (by omega) (by unfold szO; omega)
        refine ⟨v, fun k => ?_, by omega, fun h j hj hj2 => ?_⟩
        · rw [F21_58, natlt c, cond_true, le_true (show (i : Int) ≤ 60 by omega), cond_true, within_of c, cond_true, cond_true, cond_true, Int.toNat_natCast, e, wrap_succ (by omega)]
          exact v1 k
        · by_cases c3 : j = i
          · subst c3; omega
          · exact v3 h j (by omega) hj2
      · refine ⟨acc, fun k => ?_, Nat.le_refl _, fun h j hj hj2 => by omega⟩
        rw [F21_58, natlt c, cond_true, le_false (show ¬ (i : Int) ≤ 60 by omega)]; rfl
    · refine ⟨acc, fun k => ?_, Nat.le_refl _, fun h j hj hj2 => by omega⟩
      rw [F21_58, natge (by omega)]; rfl

theorem few_ok (hf : 200 ≤ fu) (l : List (List D)) (hs : ∀ o ∈ l, (cell 3 o).toRows.length ≤ 281474976710656 ∧ (cell 1 o).toStr.size ≤ 281474976710656 ∧ (cell 2 o).toStr.size ≤ 281474976710656) :
    ∃ v : Bool, (∀ k : Bool → Option R, F21 fu l k = k v) ∧ (v = true → l.length ≤ 60 ∧ ∀ j, j < l.length → (cell 1 (elem j l)).toStr.size ≤ 3000 ∧ (cell 2 (elem j l)).toStr.size ≤ 3000 ∧ (cell 3 (elem j l)).toRows.length ≤ 3000) := by
  obtain ⟨v, v1, v2, v3⟩ := few_loop (R := R) (fu := fu) l hs 61 0 0 fu (by omega) (by omega) (by omega) (by omega)
  refine ⟨decide (l.length ≤ 60) && decide ((v : Int) ≤ 3000), fun k => ?_, fun h => ?_⟩
  · rw [F21_eq, Fb21]
    refine (v1 _).trans ?_
    by_cases c : l.length ≤ 60
    · rw [le_true (show ofN l.length ≤ 60 by unfold ofN; omega), decide_eq_true c]; rfl
    · rw [le_false (show ¬ ofN l.length ≤ 60 by unfold ofN; omega), decide_eq_false c]; rfl
  · simp only [Bool.and_eq_true, decide_eq_true_eq] at h
    refine ⟨h.1, fun j hj => ?_⟩
    have := v3 h.1 j (by omega) hj
    unfold szO at this
    omega
end

end Go.Proofs.Ytpaecfhgahheaaa.V

/- disk: plain laws of Room, Cuts, Moves. -/
namespace Go.Proofs.Ytpaecfhgahheaaa.V
variable {R : Type} {fu : Nat}

def rm (room : Int) : Nat := (if 1048576 < (if 0 > room then 0 else room) then 1048576 else (if 0 > room then 0 else room)).toNat
theorem rm_eq (room : Int) : (if 1048576 < (if 0 > room then 0 else room) then 1048576 else (if 0 > room then 0 else room)) = ((rm room : Nat) : Int) := by
  unfold rm
  by_cases h : 0 > room
  · rw [if_pos h, if_neg (by omega)]; rfl
  · rw [if_neg h]
    by_cases h2 : 1048576 < room
    · rw [if_pos h2]; rfl
    · rw [if_neg h2]; omega
theorem rm_le (room : Int) : rm room ≤ 1048576 := by
  have := rm_eq room
  by_cases h : 0 > room
  · rw [if_pos h, if_neg (by omega)] at this; omega
  · rw [if_neg h] at this
    by_cases h2 : 1048576 < room
    · rw [if_pos h2] at this; omega
    · rw [if_neg h2] at this; omega

theorem new_ok (room : Int) (k : Int → Option R) : F11 fu room k = k ((rm room : Nat) : Int) := by
  unfold F11
  rw [rm_eq]

theorem app_nil {room : Nat} {n : ByteArray} {b : List (List D)} (hk : okName n = true) (hb : b.length ≤ room) : aApp room n b [] = (0, [⟨n, b, 0⟩]) := by
  unfold aApp
  rw [hk, cond_true, if_neg (by simp [tot]; omega)]; rfl

theorem app_one {room : Nat} {n : ByteArray} {b c : List (List D)} {s : Nat} (hk : okName n = true) (hb : b.length + c.length ≤ room) : aApp room n c [⟨n, b, s⟩] = (0, [⟨n, b ++ c, s⟩]) := by
  unfold aApp
  rw [hk, cond_true, if_neg (by simp [tot]; omega)]
  simp [fileOf, lk, put, del, ins]

theorem lk_one (n : ByteArray) (b : List (List D)) (s : Nat) : lk n [⟨n, b, s⟩] = some ⟨n, b, s⟩ := by simp [lk]

theorem tear_nil (n : ByteArray) (b : List (List D)) (s : Nat) : crA [] 0 [⟨n, b, s⟩] = [⟨n, b.take s, s⟩] := rfl

theorem nA_ok : okName nA = true := by decide
theorem nA_sz : nA.size ≤ 4611686018427387904 := by decide
theorem nA_32 : nA.size ≤ 32 := by decide

/-! Cuts. -/
theorem cuts4 (hf : 200 ≤ fu) (b more : List (List D)) (n : Int) (hb : b.length ≤ 4611686018427387904) (hm : more.length ≤ 4611686018427387904) (k : Bool → Option R) : F4 fu b more n k = k true := by
  rw [F4_eq, Fb4]
  by_cases h1 : 600 < b.length
  · rw [lt_true (show (600 : Int) < ofN b.length by unfold ofN; omega), cond_true]; exact awake_ok hf k
  rw [lt_false (show ¬ (600 : Int) < ofN b.length by unfold ofN; omega), cond_false]
  by_cases h2 : 600 < more.length
  · rw [lt_true (show (600 : Int) < ofN more.length by unfold ofN; omega), cond_true]; exact awake_ok hf k
  rw [lt_false (show ¬ (600 : Int) < ofN more.length by unfold ofN; omega), cond_false]
  have e0 : ∀ kk : Int → Option R, F11 fu 2000 kk = kk ((2000 : Nat) : Int) := fun kk => rfl
  rw [e0]
  obtain ⟨s1, r1, q1⟩ := append_ok (R := R) (fu := fu) (room := 2000) hf Rep.nil Good.nil (by omega) nA nA_sz b
  rw [app_nil nA_ok (by omega)] at r1 q1
  have g1 : Good [⟨nA, b, 0⟩] := Good.one nA_32 (by omega) (by omega)
  refine (q1 _).trans ?_
  show (bif !decide ((0 : Int) = 0) then _ else _) = _
  rw [eq_true (show (0 : Int) = 0 from rfl), Bool.not_true, cond_false]
  have bad : n < 0 ∨ (b.length : Int) < n → ∀ k1 : Option R, F4_125 fu b n true ((2000 : Nat) : Int) s1 (fun o_5 o_6 => k o_5) k1 = k true := by
    intro hn k1
    unfold F4_125
    obtain ⟨s2, r2, q2⟩ := cut_ok (R := R) (fu := fu) (room := 2000) r1 g1 nA n
    have e : aCut nA n [⟨nA, b, 0⟩] = (1, [⟨nA, b, 0⟩]) := by unfold aCut; rw [lk_one]; exact if_pos hn
    rw [e] at r2 q2
    rw [cond_true]
    refine (q2 _).trans ?_
    show (bif decide ((1 : Int) = 1) then _ else _) = _
    rw [eq_true (show (1 : Int) = 1 from rfl), cond_true]
    refine (loose_ok r2 g1 nA _).trans ?_
    rw [fileOf_some (lk_one nA b 0)]
    rw [eq_true (show ((b.length - 0 : Nat) : Int) = ofN b.length by unfold ofN; omega), cond_true]
    exact awake_ok hf k
  by_cases c1 : n < 0
  · rw [lt_true c1, cond_true]; exact bad (.inl c1) _
  rw [lt_false c1, cond_false]
  by_cases c2 : (b.length : Int) < n
  · rw [lt_true (show ofN b.length < n from c2)]; exact bad (.inr c2) _
  rw [lt_false (show ¬ ofN b.length < n from c2)]
  unfold F4_125
  rw [cond_false]
  obtain ⟨m, rfl⟩ : ∃ m : Nat, n = (m : Int) := ⟨n.toNat, by omega⟩
  unfold F4_63
  have hm2 : m ≤ b.length := by omega
  have hl : (b.take m).length = m := by simp; omega
  obtain ⟨s2, r2, q2⟩ := cut_ok (R := R) (fu := fu) (room := 2000) r1 g1 nA m
  have e : aCut nA m [⟨nA, b, 0⟩] = (0, [⟨nA, b.take m, m⟩]) := by
    unfold aCut; rw [lk_one]
    refine (if_neg (show ¬ ((m : Int) < 0 ∨ (b.length : Int) < m) by omega)).trans ?_
    simp [put, del, ins]
  rw [e] at r2 q2
  have g2 : Good [⟨nA, b.take m, m⟩] := Good.one nA_32 (by omega) (by omega)
  obtain ⟨s3, r3, q3⟩ := append_ok (R := R) (fu := fu) (room := 2000) hf r2 g2 (by omega) nA nA_sz more
  rw [app_one nA_ok (by omega)] at r3 q3
  have g3 : Good [⟨nA, b.take m ++ more, m⟩] := Good.one nA_32 (by simp; omega) (by simp; omega)
  obtain ⟨s4, r4, q4⟩ := tear_ok (R := R) (fu := fu) (room := 2000) hf r3 g3 []
  rw [tear_nil] at r4
  have e4 : (b.take m ++ more).take m = b.take m := by rw [List.take_append_of_le_length (by omega), List.take_take, Nat.min_self]
  rw [e4] at r4
  refine (q2 _).trans ?_
  refine (loose_ok r2 g2 nA _).trans ?_
  refine (q3 _).trans ?_
  refine (read_ok r3 g3 nA _).trans ?_
  rw [lk_one]
  refine (q4 _).trans ?_
  refine (read_ok r4 g2 nA _).trans ?_
  rw [lk_one, fileOf_some (lk_one nA (b.take m) m)]
  simp only [decide_true, cond_true]
  rw [eq_true (show (((b.take m).length - m : Nat) : Int) = 0 by omega), cond_true, ge0_nat, upTo_nat hm2, Bool.and_self, cond_true, Int.toNat_natCast, part_take, fits_of (by simp; omega) (by omega), cond_true, fits_of (by simp; omega) (by omega), cond_true, equal_refl, cond_true, cond_true, equal_refl, cond_true]
  exact awake_ok hf k

/-! Moves. -/
theorem moves5 (hf : 200 ≤ fu) (n t : ByteArray) (b : List (List D)) (hn : n.size ≤ 4611686018427387904) (ht : t.size ≤ 4611686018427387904) (hb : b.length ≤ 4611686018427387904) (k : Bool → Option R) : F5 fu n t b k = k true := by
  rw [F5_eq, Fb5]
  by_cases h1 : 600 < b.length
  · rw [lt_true (show (600 : Int) < ofN b.length by unfold ofN; omega), cond_true]; exact awake_ok hf k
  rw [lt_false (show ¬ (600 : Int) < ofN b.length by unfold ofN; omega), cond_false]
  have e0 : ∀ kk : Int → Option R, F11 fu 1000 kk = kk ((1000 : Nat) : Int) := fun kk => rfl
  rw [e0]
  obtain ⟨s1, r1, q1⟩ := append_ok (R := R) (fu := fu) (room := 1000) hf Rep.nil Good.nil (by omega) n hn b
  refine (q1 _).trans ?_
  cases hk : okName n with
  | false =>
    have e : aApp 1000 n b [] = (1, []) := by unfold aApp; rw [hk]; rfl
    rw [e] at r1 ⊢
    show (bif !decide ((1 : Int) = 0) then _ else _) = _
    rw [eq_false (show ¬ (1 : Int) = 0 by omega), Bool.not_false, cond_true]
    obtain ⟨s2, r2, q2⟩ := rename_ok (R := R) (fu := fu) (room := 1000) r1 Good.nil n t ht
    refine (q2 _).trans ?_
    show (bif decide ((6 : Int) = 6) then _ else _) = _
    rw [eq_true rfl, cond_true]
    exact awake_ok hf k
  | true =>
    have h32 := okName_le hk
    rw [app_nil hk (by omega)] at r1 ⊢
    have g1 : Good [⟨n, b, 0⟩] := Good.one h32 (by omega) (by omega)
    show (bif !decide ((0 : Int) = 0) then _ else _) = _
    rw [eq_true (show (0 : Int) = 0 from rfl), Bool.not_true, cond_false]
    obtain ⟨s2, r2, q2⟩ := rename_ok (R := R) (fu := fu) (room := 1000) r1 g1 n t ht
    refine (q2 _).trans ?_
    cases hk2 : okName t with
    | false =>
      have e : aRen n t [⟨n, b, 0⟩] = (1, [⟨n, b, 0⟩]) := by unfold aRen; rw [lk_one, hk2]; rfl
      rw [e] at r2 ⊢
      show (bif !decide ((1 : Int) = 0) then (bif decide ((1 : Int) = 1) then _ else _) else _) = _
      rw [eq_false (show ¬ (1 : Int) = 0 by omega), Bool.not_false, cond_true, eq_true rfl, cond_true, r2.ok g1, cond_true, r2.used g1]
      rw [eq_true (show ((tot [⟨n, b, 0⟩] : Nat) : Int) = ofN b.length by unfold ofN; simp [tot]), cond_true]
      exact awake_ok hf k
    | true =>
      have t32 := okName_le hk2
      by_cases d : n = t
      · subst d
        have e : aRen n n [⟨n, b, 0⟩] = (0, [⟨n, b, 0⟩]) := by unfold aRen; rw [lk_one, hk2]; exact if_pos rfl
        rw [e] at r2 ⊢
        show (bif !decide ((0 : Int) = 0) then _ else _) = _
        rw [eq_true (show (0 : Int) = 0 from rfl), Bool.not_true, cond_false]
        obtain ⟨s4, r4, q4⟩ := tear_ok (R := R) (fu := fu) (room := 1000) hf r2 g1 []
        rw [tear_nil] at r4
        have g4 : Good [⟨n, b.take 0, 0⟩] := Good.one h32 (by omega) (by simp)
        refine (read_ok r2 g1 n _).trans ?_
        rw [lk_one]
        refine (read_ok r2 g1 n _).trans ?_
        rw [lk_one]
        refine (q4 _).trans ?_
        rw [strEq_refl, cond_true]
        unfold F5_8191
        rw [eq_true rfl, cond_true, equal_refl, cond_true, eq_false (show ¬ (0 : Int) = 6 by omega), strEq_refl, Bool.not_true, r4.ok g4, r4.used g4, r4.keys g4.so]
        show (bif decide (((tot [⟨n, b.take 0, 0⟩] : Nat) : Int) = 0) then F10 fu _ else _) = _
        rw [eq_true (by simp [tot]), cond_true]
        exact awake_ok hf k
      · have e : aRen n t [⟨n, b, 0⟩] = (0, [⟨t, b, b.length⟩]) := by
          unfold aRen; rw [lk_one, hk2]
          refine (if_neg d).trans ?_
          simp [put, del, ins]
        rw [e] at r2 ⊢
        have g2 : Good [⟨t, b, b.length⟩] := Good.one t32 (by omega) (by omega)
        show (bif !decide ((0 : Int) = 0) then _ else _) = _
        rw [eq_true (show (0 : Int) = 0 from rfl), Bool.not_true, cond_false]
        obtain ⟨s4, r4, q4⟩ := tear_ok (R := R) (fu := fu) (room := 1000) hf r2 g2 []
        rw [tear_nil, List.take_length] at r4
        refine (read_ok r2 g2 t _).trans ?_
        rw [lk_one]
        refine (read_ok r2 g2 n _).trans ?_
        rw [show lk n [⟨t, b, b.length⟩] = none from if_neg (show ¬ t = n from fun h => d h.symm)]
        refine (q4 _).trans ?_
        rw [strEq_dec, decide_eq_false d, cond_false]
        unfold F5_8191
        rw [eq_true rfl, cond_true, equal_refl, cond_true, eq_true rfl, strEq_dec, decide_eq_false d, Bool.not_false, r4.ok g2, r4.used g2, r4.keys g2.so]
        show (bif decide (((tot [⟨t, b, b.length⟩] : Nat) : Int) = ofN b.length) then F10 fu _ else _) = _
        rw [eq_true (by unfold ofN; simp [tot]), cond_true]
        exact awake_ok hf k

/-! Room. -/
def nB : ByteArray := { data := #[98] }

theorem room3 (hf : 200 ≤ fu) (room one two : Int) (k : Bool → Option R) : F3 fu room one two k = k true := by
  rw [F3_eq, Fb3]
  by_cases a1 : one < 0
  · rw [lt_true a1, cond_true]; exact awake_ok hf k
  rw [lt_false a1, cond_false]
  by_cases a2 : 3000 < one
  · rw [lt_true a2, cond_true]; exact awake_ok hf k
  rw [lt_false a2, cond_false]
  by_cases a3 : two < 0
  · rw [lt_true a3, cond_true]; exact awake_ok hf k
  rw [lt_false a3, cond_false]
  by_cases a4 : 3000 < two
  · rw [lt_true a4, cond_true]; exact awake_ok hf k
  rw [lt_false a4, cond_false, new_ok, rm_eq]
  obtain ⟨x, rfl⟩ : ∃ x : Nat, one = (x : Int) := ⟨one.toNat, by omega⟩
  obtain ⟨y, rfl⟩ : ∃ y : Nat, two = (y : Int) := ⟨two.toNat, by omega⟩
  have hr := rm_le room
  generalize rm room = r at hr ⊢
  rw [decide_eq_true (show (0 : Int) ≤ (x : Int) ∧ (x : Int) ≤ x by omega), fits_of (by omega) (by omega), Bool.and_self, cond_true]
  rw [decide_eq_true (show (0 : Int) ≤ (y : Int) ∧ (y : Int) ≤ y by omega), Bool.true_and, Int.toNat_natCast, Int.toNat_natCast]
  have fin : ∀ (u : Nat) (s : List (D × List D)) (fl : List Fi), Rep s fl → Good fl → tot fl = u → u ≤ r → F3_4095 fu (r : Int) (u : Int) s k = k true := by
    intro u s fl h g h1 h2
    unfold F3_4095
    rw [h.ok g, cond_true, h.used g, h1, eq_true rfl, cond_true, le_true (show (u : Int) ≤ r by omega), cond_true]
    exact awake_ok hf k
  have hB : okName nB = true := by decide
  have hB1 : nB.size ≤ 4611686018427387904 := by decide
  obtain ⟨s1, r1, q1⟩ := append_ok (R := R) (fu := fu) (room := r) hf Rep.nil Good.nil hr nA nA_sz (List.replicate x [D.int 0])
  refine (q1 _).trans ?_
  rw [fits_of (by omega) (by omega), cond_true]
  by_cases c1 : x ≤ r
  · rw [app_nil nA_ok (by simpa using c1)] at r1 ⊢
    have g1 : Good [⟨nA, List.replicate x [D.int 0], 0⟩] := Good.one nA_32 (by omega) (by simp; omega)
    obtain ⟨s2, r2, q2⟩ := append_ok (R := R) (fu := fu) (room := r) hf r1 g1 hr nB hB1 (List.replicate y [D.int 0])
    refine (q2 _).trans ?_
    rw [le_true (show (x : Int) ≤ r by omega), cond_true]
    unfold F3_1023
    rw [le_true (show (x : Int) ≤ r by omega), wrap_of (by omega) (by omega)]
    obtain ⟨g2, _⟩ := app_good g1 (by simp) hr nB (List.replicate y [D.int 0])
    by_cases c2 : x + y ≤ r
    · have e2 : aApp r nB (List.replicate y [D.int 0]) [⟨nA, List.replicate x [D.int 0], 0⟩] = (0, [⟨nA, List.replicate x [D.int 0], 0⟩, ⟨nB, List.replicate y [D.int 0], 0⟩]) := by
        unfold aApp
        rw [hB, cond_true, if_neg (by simp [tot]; omega)]
        rfl
      rw [e2] at r2 g2 ⊢
      rw [le_true (show (y : Int) ≤ (r : Int) - x by omega)]
      simp only [decide_true, Bool.not_true, beq_iff_eq, Bool.false_eq_true, cond_true, cond_false, show (false == true) = false from rfl]
      rw [wrap_of (by omega) (by omega)]
      exact fin (x + y) _ _ r2 g2 (by simp [tot]) c2
    · have e2 : aApp r nB (List.replicate y [D.int 0]) [⟨nA, List.replicate x [D.int 0], 0⟩] = (5, [⟨nA, List.replicate x [D.int 0], 0⟩]) := by
        unfold aApp
        rw [hB, cond_true, if_pos (by simp [tot]; omega)]
      rw [e2] at r2 g2 ⊢
      rw [le_false (show ¬ (y : Int) ≤ (r : Int) - x by omega)]
      simp only [decide_true, Bool.not_true, cond_true, cond_false, show (false == true) = false from rfl, eq_false (show ¬ (5 : Int) = 0 by omega), Bool.not_false, show (true == false) = false from rfl]
      exact fin x _ _ r2 g2 (by simp [tot]) c1
  · have e1 : aApp r nA (List.replicate x [D.int 0]) [] = (5, []) := by
      unfold aApp
      rw [nA_ok, cond_true, if_pos (by simp [tot]; omega)]
    rw [e1] at r1 ⊢
    obtain ⟨s2, r2, q2⟩ := append_ok (R := R) (fu := fu) (room := r) hf r1 Good.nil hr nB hB1 (List.replicate y [D.int 0])
    refine (q2 _).trans ?_
    rw [le_false (show ¬ (x : Int) ≤ r by omega), cond_false]
    unfold F3_1023
    rw [le_false (show ¬ (x : Int) ≤ r by omega), wrap_of (by omega) (by omega)]
    obtain ⟨g2, _⟩ := app_good Good.nil (by simp) hr nB (List.replicate y [D.int 0])
    by_cases c2 : y ≤ r
    · rw [app_nil hB (by simpa using c2)] at r2 g2 ⊢
      rw [le_true (show (y : Int) ≤ (r : Int) - 0 by omega)]
      simp only [decide_true, Bool.not_true, cond_true, cond_false, show (false == true) = false from rfl, eq_false (show ¬ (5 : Int) = 0 by omega), Bool.not_false, show (true == false) = false from rfl]
      rw [wrap_of (by omega) (by omega), Int.zero_add]
      exact fin y _ _ r2 g2 (by simp [tot]) c2
    · have e2 : aApp r nB (List.replicate y [D.int 0]) [] = (5, []) := by
        unfold aApp
        rw [hB, cond_true, if_pos (by simp [tot]; omega)]
      rw [e2] at r2 g2 ⊢
      rw [le_false (show ¬ (y : Int) ≤ (r : Int) - 0 by omega)]
      simp only [decide_true, Bool.not_true, cond_true, cond_false, show (false == true) = false from rfl, eq_false (show ¬ (5 : Int) = 0 by omega), Bool.not_false, show (true == false) = false from rfl]
      exact fin 0 _ _ r2 g2 rfl (Nat.zero_le _)

end Go.Proofs.Ytpaecfhgahheaaa.V

/- disk: plain laws of Does, Apart, Keeps, Copies. -/
namespace Go.Proofs.Ytpaecfhgahheaaa.V
variable {R : Type} {fu : Nat}

abbrev NO (o : List D) : List D := [D.int (cell 0 o).toInt, D.str (cell 1 o).toStr, D.str (cell 2 o).toStr, D.row (cell 3 o).toRows, D.int (cell 4 o).toInt, D.row (cell 5 o).toRows]

def Ops (l : List (List D)) : Prop := ∀ o ∈ l, (cell 3 o).toRows.length ≤ 281474976710656 ∧ (cell 1 o).toStr.size ≤ 281474976710656 ∧ (cell 2 o).toStr.size ≤ 281474976710656
def Few (l : List (List D)) : Prop := l.length ≤ 60 ∧ ∀ j, j < l.length → (cell 1 (elem j l)).toStr.size ≤ 3000 ∧ (cell 2 (elem j l)).toStr.size ≤ 3000 ∧ (cell 3 (elem j l)).toRows.length ≤ 3000

theorem refNew (fu : Nat) (room : Int) (k : List D → Option R) : F22 fu room k = k (ref (rm room) []) := by
  rw [F22_eq, Fb22]
  have e := rm_eq room
  show _ = k [D.int (rm room : Nat), D.row []]
  rw [← e]
  by_cases h : room < 0
  · rw [lt_true h, if_pos (show 0 > room from h)]; rfl
  · rw [lt_false h, cond_false, if_neg (show ¬ 0 > room from h)]
    by_cases h2 : 1048576 < room
    · rw [lt_true h2, if_pos h2]; rfl
    · rw [lt_false h2, if_neg h2]; rfl

theorem does_loop (hf : 5000 ≤ fu) {l : List (List D)} (hw : Few l) {room : Nat} (hr : room ≤ 1048576) (k0 k1 : Option R) : ∀ (d i n : Nat) (es : List (D × List D)) (fl : List Fi), l.length - i = d → d < n → i ≤ l.length → Rep es fl → Good fl → fl.length ≤ i →
    F6_250 fu l (ofN l.length) room n i room (rows fl) es k0 k1 = k1
  | 0, i, n + 1, es, fl, h1, _, h2, _, _, _ => by
    rw [F6_250, natge (by omega)]; rfl
  | d + 1, i, n + 1, es, fl, h1, hn, h2, h, g, hl => by
    have hi : i < l.length := by omega
    obtain ⟨b1, b2, b3⟩ := hw.2 i hi
    have h60 := hw.1
    obtain ⟨es', q1, q2⟩ := doD_ok (R := R) (fu := fu) (room := room) (by omega) h g hr (NO (elem i l)) (by show (cell 1 (elem i l)).toStr.size ≤ _; omega) (by show (cell 2 (elem i l)).toStr.size ≤ _; omega)
    obtain ⟨g1, g2⟩ := do_good g (by omega) hr (NO (elem i l))
    rw [F6_250, natlt hi, cond_true, within_of hi, cond_true, Int.toNat_natCast]
    refine (do_ok (room := room) hf g (NO (elem i l)) b1 b2 b3 _).trans ?_
    refine (q2 _).trans ?_
    rw [eq_true rfl, Bool.not_true, cond_false]
    refine (same_ok (room := room) (by omega) q1 g1 _).trans ?_
    rw [Bool.not_true, cond_false, wrap_succ (by omega)]
    exact does_loop hf hw hr k0 k1 d (i + 1) n es' _ (by omega) (by omega) (by omega) q1 g1 (by omega)

theorem does6 (hf : 5000 ≤ fu) (room : Int) (l : List (List D)) (hw : Ops l) (k : Bool → Option R) : F6 fu room l k = k true := by
  rw [F6_eq, Fb6]
  obtain ⟨v, v1, v2⟩ := few_ok (R := R) (fu := fu) (by omega) l hw
  rw [v1]
  cases v with
  | false => exact awake_ok (by omega) k
  | true =>
    rw [Bool.not_true, cond_false, new_ok, refNew]
    have h60 := (v2 rfl).1
    refine (does_loop hf (v2 rfl) (rm_le room) (k false) _ l.length 0 fu [] [] (by omega) (by omega) (by omega) Rep.nil Good.nil (by simp)).trans ?_
    exact awake_ok (by omega) k

theorem both_loop7 (hf : 5000 ≤ fu) {l : List (List D)} (hw : Few l) {room : Nat} (hr : room ≤ 1048576) (r : Option R) (k : Int → List (List D) → List (D × List D) → Option R) (H : ∀ es fl, Rep es fl → Good fl → fl.length ≤ 60 → k room (rows fl) es = r) : ∀ (d i n : Nat) (es : List (D × List D)) (fl : List Fi), l.length - i = d → d < n → i ≤ l.length → Rep es fl → Good fl → fl.length ≤ i →
    F7_250 fu l (ofN l.length) room n i room (rows fl) es k = r
  | 0, i, n + 1, es, fl, h1, _, h2, h, g, hl => by
    have h60 := hw.1
    rw [F7_250, natge (by omega), cond_false]; exact H es fl h g (by omega)
  | d + 1, i, n + 1, es, fl, h1, hn, h2, h, g, hl => by
    have hi : i < l.length := by omega
    obtain ⟨b1, b2, b3⟩ := hw.2 i hi
    have h60 := hw.1
    obtain ⟨es', q1, q2⟩ := doD_ok (R := R) (fu := fu) (room := room) (by omega) h g hr (NO (elem i l)) (by show (cell 1 (elem i l)).toStr.size ≤ _; omega) (by show (cell 2 (elem i l)).toStr.size ≤ _; omega)
    obtain ⟨g1, g2⟩ := do_good g (by omega) hr (NO (elem i l))
    rw [F7_250, natlt hi, cond_true, within_of hi, cond_true, Int.toNat_natCast]
    refine (do_ok (room := room) hf g (NO (elem i l)) b1 b2 b3 _).trans ?_
    refine (q2 _).trans ?_
    rw [wrap_succ (by omega)]
    exact both_loop7 hf hw hr r k H d (i + 1) n es' _ (by omega) (by omega) (by omega) q1 g1 (by omega)

theorem both_loop9 (hf : 5000 ≤ fu) {l : List (List D)} (hw : Few l) {room : Nat} (hr : room ≤ 1048576) (r : Option R) (k : Int → List (List D) → List (D × List D) → Option R) (H : ∀ es fl, Rep es fl → Good fl → fl.length ≤ 60 → k room (rows fl) es = r) : ∀ (d i n : Nat) (es : List (D × List D)) (fl : List Fi), l.length - i = d → d < n → i ≤ l.length → Rep es fl → Good fl → fl.length ≤ i →
    F9_250 fu l (ofN l.length) room n i room (rows fl) es k = r
  | 0, i, n + 1, es, fl, h1, _, h2, h, g, hl => by
    have h60 := hw.1
    rw [F9_250, natge (by omega), cond_false]; exact H es fl h g (by omega)
  | d + 1, i, n + 1, es, fl, h1, hn, h2, h, g, hl => by
    have hi : i < l.length := by omega
    obtain ⟨b1, b2, b3⟩ := hw.2 i hi
    have h60 := hw.1
    obtain ⟨es', q1, q2⟩ := doD_ok (R := R) (fu := fu) (room := room) (by omega) h g hr (NO (elem i l)) (by show (cell 1 (elem i l)).toStr.size ≤ _; omega) (by show (cell 2 (elem i l)).toStr.size ≤ _; omega)
    obtain ⟨g1, g2⟩ := do_good g (by omega) hr (NO (elem i l))
    rw [F9_250, natlt hi, cond_true, within_of hi, cond_true, Int.toNat_natCast]
    refine (do_ok (room := room) hf g (NO (elem i l)) b1 b2 b3 _).trans ?_
    refine (q2 _).trans ?_
    rw [wrap_succ (by omega)]
    exact both_loop9 hf hw hr r k H d (i + 1) n es' _ (by omega) (by omega) (by omega) q1 g1 (by omega)

theorem disk_loop8 (hf : 5000 ≤ fu) {l : List (List D)} (hw : Few l) {room : Nat} (hr : room ≤ 1048576) (r : Option R) (k : List (D × List D) → Option R) (H : ∀ es fl, Rep es fl → Good fl → fl.length ≤ 60 → k es = r) : ∀ (d i n : Nat) (es : List (D × List D)) (fl : List Fi), l.length - i = d → d < n → i ≤ l.length → Rep es fl → Good fl → fl.length ≤ i →
    F8_250 fu l (ofN l.length) room n i es k = r
  | 0, i, n + 1, es, fl, h1, _, h2, h, g, hl => by
    have h60 := hw.1
    rw [F8_250, natge (by omega), cond_false]; exact H es fl h g (by omega)
  | d + 1, i, n + 1, es, fl, h1, hn, h2, h, g, hl => by
    have hi : i < l.length := by omega
    obtain ⟨b1, b2, b3⟩ := hw.2 i hi
    have h60 := hw.1
    obtain ⟨es', q1, q2⟩ := doD_ok (R := R) (fu := fu) (room := room) (by omega) h g hr (NO (elem i l)) (by show (cell 1 (elem i l)).toStr.size ≤ _; omega) (by show (cell 2 (elem i l)).toStr.size ≤ _; omega)
    obtain ⟨g1, g2⟩ := do_good g (by omega) hr (NO (elem i l))
    rw [F8_250, natlt hi, cond_true, within_of hi, cond_true, Int.toNat_natCast]
    refine (q2 _).trans ?_
    rw [wrap_succ (by omega)]
    exact disk_loop8 hf hw hr r k H d (i + 1) n es' _ (by omega) (by omega) (by omega) q1 g1 (by omega)

/-! Apart. -/
theorem other {fl : List Fi} (g : Good fl) {room : Nat} (hl : fl.length ≤ 99) (hr : room ≤ 1048576) {o : List D} (h0 : 0 ≤ (cell 0 o).toInt) (h3 : (cell 0 o).toInt ≤ 3) {f : Fi} (hf : f ∈ fl) (hn : f.n ≠ (cell 1 o).toStr) : lk f.n (aDo room o fl).2 = some f := by
  refine lk_of (do_good g hl hr o).1.so ?_
  unfold aDo
  rw [if_neg (show ¬ (cell 0 o).toInt = 5 by omega)]
  split
  · unfold aApp
    cases okName (cell 1 o).toStr with
    | false => exact hf
    | true =>
      rw [cond_true]
      split
      · exact hf
      · exact mem_put.2 (.inr ⟨hf, hn⟩)
  split
  · unfold aSync
    split
    · exact hf
    · exact mem_put.2 (.inr ⟨hf, hn⟩)
  split
  · unfold aCut
    split
    · exact hf
    · split
      · exact hf
      · exact mem_put.2 (.inr ⟨hf, hn⟩)
  rw [if_pos (show (cell 0 o).toInt = 3 by omega)]
  unfold aRem
  split
  · exact hf
  · exact mem_del.2 ⟨hf, hn⟩

theorem apart_loop {es : List (D × List D)} {fl fl' : List Fi} {room : Nat} (h : Rep es fl') (g : Good fl) (g' : Good fl') (nm : ByteArray) (H : ∀ f ∈ fl, f.n ≠ nm → lk f.n fl' = some f) (k0 k1 : Option R) : ∀ (r p : List Fi) (n : Nat), fl = p ++ r → r.length < n →
    F7_1018 fu (rows fl) (ofN (rows fl).length) nm room es n p.length k0 k1 = k1
  | [], p, n + 1, e, hn => by
    rw [F7_1018, natge (by rw [rows_len, e]; simp)]; rfl
  | x :: r, p, n + 1, e, hn => by
    have h1 : p.length < fl.length := by rw [e]; simp
    have hx : x ∈ fl := by rw [e]; simp
    have hl := g.ln
    have ht := g.to
    have hb := mem_tot hx
    have hs := g.sy x hx
    have e1 : elem p.length (rows fl) = x.row := by rw [e]; exact elem_mid ..
    rw [F7_1018, natlt (by rw [rows_len]; exact h1), cond_true, within_of (by rw [rows_len]; exact h1), cond_true, Int.toNat_natCast, e1, row0, row1, row2, strEq_dec, wrap_succ (by omega)]
    have := apart_loop (room := room) h g g' nm H k0 k1 r (p ++ [x]) n (by simpa using e) (by simp at hn; omega)
    rw [List.length_append] at this
    by_cases c : x.n = nm
    · rw [decide_eq_true c, cond_true]; exact this
    · have e3 := H x hx c
      rw [decide_eq_false c, cond_false, read_ok h g', e3]
      show (bif !decide ((0 : Int) = 0) then _ else _) = _
      rw [eq_true (show (0 : Int) = 0 from rfl), Bool.not_true, cond_false, equal_refl, Bool.not_true, cond_false, loose_ok h g', fileOf_some e3]
      have e4 : IntKind.i64.wrap (ofN x.b.length - (x.s : Int)) = ((x.b.length - x.s : Nat) : Int) := by unfold ofN; rw [wrap_of (by omega) (by omega)]; omega
      rw [e4, eq_true rfl, Bool.not_true, cond_false]
      exact this

theorem apart7 (hf : 5000 ≤ fu) (l : List (List D)) (hw : Ops l) (o : List D) (ho : Ops [NO o]) (k : Bool → Option R) : F7 fu l o k = k true := by
  rw [F7_eq, Fb7]
  obtain ⟨v, v1, v2⟩ := few_ok (R := R) (fu := fu) (by omega) l hw
  rw [v1]
  cases v with
  | false => exact awake_ok (by omega) k
  | true =>
    rw [Bool.not_true, cond_false]
    obtain ⟨u, u1, u2⟩ := few_ok (R := R) (fu := fu) (by omega) [NO o] ho
    rw [u1]
    cases u with
    | false => exact awake_ok (by omega) k
    | true =>
      rw [Bool.not_true, cond_false]
      by_cases c1 : (cell 0 o).toInt < 0
      · rw [lt_true c1, cond_true]; exact awake_ok (by omega) k
      rw [lt_false c1, cond_false]
      by_cases c2 : 3 < (cell 0 o).toInt
      · rw [lt_true c2, cond_true]; exact awake_ok (by omega) k
      rw [lt_false c2, cond_false, new_ok, refNew]
      have h60 := (v2 rfl).1
      obtain ⟨b1, b2, b3⟩ := (u2 rfl).2 0 (by simp)
      have b1 : (cell 1 o).toStr.size ≤ 3000 := b1
      have b2 : (cell 2 o).toStr.size ≤ 3000 := b2
      refine both_loop7 hf (v2 rfl) (rm_le 8000) (k true) _ (fun es fl h g hl => ?_) l.length 0 fu [] [] (by omega) (by omega) (by omega) Rep.nil Good.nil (by simp)
      obtain ⟨es', q1, q2⟩ := doD_ok (R := R) (fu := fu) (room := rm 8000) (by omega) h g (rm_le 8000) (NO o) (by show (cell 1 o).toStr.size ≤ _; omega) (by show (cell 2 o).toStr.size ≤ _; omega)
      obtain ⟨g1, g2⟩ := do_good g (by omega) (rm_le 8000) (NO o)
      refine (q2 _).trans ?_
      refine (apart_loop (room := rm 8000) q1 g g1 (cell 1 o).toStr (fun f hm hn => other g (by omega) (rm_le 8000) (o := NO o) (by show 0 ≤ (cell 0 o).toInt; omega) (by show (cell 0 o).toInt ≤ 3; omega) hm hn) (k false) _ fl [] fu rfl (by omega)).trans ?_
      exact awake_ok (by omega) k

/-! Keeps. -/
theorem crN_ge (keep : List (List D)) (i : Nat) (f : Fi) : f.s ≤ crN keep i f := by
  unfold crN; split <;> omega

theorem crA_at (keep : List (List D)) : ∀ (p r : List Fi) (x : Fi) (i : Nat), crF keep (i + p.length) x ∈ crA keep i (p ++ x :: r)
  | [], r, x, i => List.mem_cons_self ..
  | y :: p, r, x, i => by
    have := crA_at keep p r x (i + 1)
    rw [show i + 1 + p.length = i + (y :: p).length by simp; omega] at this
    exact List.mem_cons_of_mem _ this

theorem crA_full (keep : List (List D)) : ∀ (fl : List Fi) (i : Nat), (∀ f ∈ fl, f.s = f.b.length) → crA keep i fl = fl
  | [], _, _ => rfl
  | f :: r, i, h => by
    have hf := h f (List.mem_cons_self ..)
    have e : crN keep i f = f.s := by
      unfold crN
      split
      · rw [← hf, Nat.sub_self, Nat.zero_add, Nat.mod_one]; rfl
      · rfl
    show crF keep i f :: crA keep (i + 1) r = _
    rw [crA_full keep r (i + 1) fun f hm => h f (List.mem_cons_of_mem _ hm)]
    unfold crF
    rw [e, hf, List.take_length, ← hf]

theorem crA_sy {keep : List (List D)} {fl : List Fi} (g : Good fl) : ∀ f ∈ crA keep 0 fl, f.s = f.b.length := by
  intro f hf
  obtain ⟨x, hx, j, rfl⟩ := crA_mem hf
  have := crN_le (keep := keep) (i := j) (g.sy x hx)
  show crN keep j x = (x.b.take (crN keep j x)).length
  simp; omega

theorem keeps_loop {es es1 : List (D × List D)} {fl : List Fi} {room : Nat} (keep : List (List D)) (h : Rep es (crA keep 0 fl)) (h1 : Rep es1 fl) (g : Good fl) (k0 k1 : Option R) : ∀ (r p : List Fi) (n : Nat), fl = p ++ r → r.length < n →
    F8_4090 fu (ofN (fl.map fun f => [D.str f.n]).length) room room (fl.map fun f => [D.str f.n]) es es1 n p.length k0 k1 = k1
  | [], p, n + 1, e, hn => by
    rw [F8_4090, natge (by rw [List.length_map, e]; simp)]; rfl
  | x :: r, p, n + 1, e, hn => by
    have hp : p.length < fl.length := by rw [e]; simp
    have hx : x ∈ fl := by rw [e]; simp
    have hl := g.ln
    have ht := g.to
    have hb := mem_tot hx
    have hs := g.sy x hx
    have hc := crN_le (keep := keep) (i := p.length) hs
    have hd := crN_ge keep p.length x
    have e2 : (cell 0 (elem p.length (fl.map fun f => [D.str f.n]))).toStr = x.n := by rw [e]; exact keyrow ..
    have e3 : lk x.n fl = some x := lk_of g.so hx
    have e4 : lk x.n (crA keep 0 fl) = some (crF keep p.length x) := by
      have : crF keep p.length x ∈ crA keep 0 fl := by rw [e]; have := crA_at keep p r x 0; rwa [Nat.zero_add] at this
      exact lk_of (f := crF keep p.length x) (g.cr keep).so this
    have hlen : (x.b.take (crN keep p.length x)).length = crN keep p.length x := by simp; omega
    rw [F8_4090, natlt (by rw [List.length_map]; exact hp), cond_true, within_of (by rw [List.length_map]; exact hp), cond_true, Int.toNat_natCast, e2, read_ok h1 g, e3]
    refine (read_ok h (g.cr keep) x.n _).trans ?_
    rw [e4]
    show (bif !decide ((0 : Int) = 0) then k0 else bif !decide ((0 : Int) = 0) then k0 else bif decide (ofN x.b.length < ofN (x.b.take (crN keep p.length x)).length) then k0 else bif decide ((0 : Int) ≤ 0 ∧ 0 ≤ ofN (x.b.take (crN keep p.length x)).length) && upTo (ofN (x.b.take (crN keep p.length x)).length) x.b.length then F18 fu (x.b.take (crN keep p.length x)) (part x.b 0 (ofN (x.b.take (crN keep p.length x)).length).toNat) _ else none) = k1
    rw [hlen]
    show (bif !decide ((0 : Int) = 0) then k0 else bif !decide ((0 : Int) = 0) then k0 else bif decide (ofN x.b.length < ((crN keep p.length x : Nat) : Int)) then k0 else bif decide ((0 : Int) ≤ 0 ∧ 0 ≤ ((crN keep p.length x : Nat) : Int)) && upTo ((crN keep p.length x : Nat) : Int) x.b.length then F18 fu (x.b.take (crN keep p.length x)) (part x.b 0 ((crN keep p.length x : Nat) : Int).toNat) _ else none) = k1
    rw [eq_true (show (0 : Int) = 0 from rfl), Bool.not_true, cond_false, cond_false, lt_false (show ¬ ofN x.b.length < ((crN keep p.length x : Nat) : Int) by unfold ofN; omega), cond_false, ge0_nat, upTo_nat hc, Bool.and_self, cond_true, Int.toNat_natCast, part_take, equal_refl, Bool.not_true, cond_false]
    refine (loose_ok h1 g x.n _).trans ?_
    rw [fileOf_some e3]
    have e5 : IntKind.i64.wrap (ofN x.b.length - ((x.b.length - x.s : Nat) : Int)) = (x.s : Int) := by unfold ofN; rw [wrap_of (by omega) (by omega)]; omega
    rw [e5, lt_false (show ¬ ofN (crF keep p.length x).b.length < (x.s : Int) by show ¬ (((x.b.take (crN keep p.length x)).length : Nat) : Int) < x.s; omega), cond_false]
    refine (loose_ok h (g.cr keep) x.n _).trans ?_
    rw [fileOf_some e4]
    have e6 : (((crF keep p.length x).b.length - (crF keep p.length x).s : Nat) : Int) = 0 := by
      show (((x.b.take (crN keep p.length x)).length - crN keep p.length x : Nat) : Int) = 0
      omega
    rw [e6, eq_true rfl, Bool.not_true, cond_false, wrap_succ (by omega)]
    have := keeps_loop (room := room) keep h h1 g k0 k1 r (p ++ [x]) n (by simpa using e) (by simp at hn; omega)
    rw [List.length_append] at this
    exact this

theorem keeps8 (hf : 5000 ≤ fu) (room : Int) (l : List (List D)) (hw : Ops l) (keep : List (List D)) (k : Bool → Option R) : F8 fu room l keep k = k true := by
  rw [F8_eq, Fb8]
  obtain ⟨v, v1, v2⟩ := few_ok (R := R) (fu := fu) (by omega) l hw
  rw [v1]
  cases v with
  | false => exact awake_ok (by omega) k
  | true =>
    rw [Bool.not_true, cond_false, new_ok]
    have h60 := (v2 rfl).1
    refine disk_loop8 hf (v2 rfl) (rm_le room) (k true) _ (fun es fl h g hl => ?_) l.length 0 fu [] [] (by omega) (by omega) (by omega) Rep.nil Good.nil (by simp)
    rw [F26_eq, Fb26]
    obtain ⟨s1, r1, q1⟩ := tear_ok (R := R) (fu := fu) (room := rm room) (by omega) h g keep
    refine (q1 _).trans ?_
    have g1 := g.cr keep
    rw [h.ok g, cond_true, h.keys g.so]
    refine (keeps_loop (room := rm room) keep r1 h g (k false) _ fl [] fu rfl (by omega)).trans ?_
    rw [r1.ok g1, cond_true]
    obtain ⟨s2, r2, q2⟩ := tear_ok (R := R) (fu := fu) (room := rm room) (by omega) r1 g1 [[D.int 1], [D.int 2], [D.int 3]]
    rw [crA_full _ _ 0 (crA_sy g)] at r2
    refine (q2 _).trans ?_
    rw [r2.ok g1, cond_true, r2.used g1, r1.used g1, eq_true rfl, cond_true, cond_true, cond_true, r2.keys g1.so, eq_true (by simp [crA_len]), cond_true]
    exact awake_ok (by omega) k

/-! Copies. -/
theorem bump_loop (L : Nat) (hL : L ≤ 2000000) (k : Option R) : ∀ (d i n : Nat) (b : List (List D)), L - i = d → d < n → i ≤ L → b.length = L → F9_2094286 fu (ofN L) n i b k = k
  | 0, i, n + 1, b, h1, _, h2, hb => by
    rw [F9_2094286, natge (by omega)]; rfl
  | d + 1, i, n + 1, b, h1, hn, h2, hb => by
    have hi : i < L := by omega
    rw [F9_2094286, natlt hi, cond_true, within_of (by omega), cond_true, cond_true, wrap_succ (by omega)]
    exact bump_loop L hL k d (i + 1) n _ (by omega) (by omega) (by omega) (by unfold putAt; rw [List.length_set]; exact hb)

theorem reads_loop (hf : 2000000 ≤ fu) {es : List (D × List D)} {fl : List Fi} {room : Nat} (h : Rep es fl) (g : Good fl) (k : Option R) : ∀ (r p : List Fi) (n : Nat), fl = p ++ r → r.length < n →
    F9_4090 fu (ofN (fl.map fun f => [D.str f.n]).length) room (fl.map fun f => [D.str f.n]) es n p.length k = k
  | [], p, n + 1, e, hn => by
    rw [F9_4090, natge (by rw [List.length_map, e]; simp)]; rfl
  | x :: r, p, n + 1, e, hn => by
    have hp : p.length < fl.length := by rw [e]; simp
    have hx : x ∈ fl := by rw [e]; simp
    have hl := g.ln
    have ht := g.to
    have hb := mem_tot hx
    have e2 : (cell 0 (elem p.length (fl.map fun f => [D.str f.n]))).toStr = x.n := by rw [e]; exact keyrow ..
    have e3 : lk x.n fl = some x := lk_of g.so hx
    have := reads_loop hf (room := room) h g k r (p ++ [x]) n (by simpa using e) (by simp at hn; omega)
    rw [List.length_append] at this
    rw [F9_4090, natlt (by rw [List.length_map]; exact hp), cond_true, within_of (by rw [List.length_map]; exact hp), cond_true, Int.toNat_natCast, e2, read_ok h g, e3, wrap_succ (by omega)]
    refine (bump_loop (fu := fu) x.b.length (by omega) _ x.b.length 0 fu x.b (by omega) (by omega) (by omega) rfl).trans ?_
    exact this

theorem copies9 (hf : 2000000 ≤ fu) (l : List (List D)) (hw : Ops l) (o : List D) (ho : Ops [NO o]) (k : Bool → Option R) : F9 fu l o k = k true := by
  rw [F9_eq, Fb9]
  obtain ⟨v, v1, v2⟩ := few_ok (R := R) (fu := fu) (by omega) l hw
  rw [v1]
  cases v with
  | false => exact awake_ok (by omega) k
  | true =>
    rw [Bool.not_true, cond_false]
    generalize decide ((600 : Int) < IntKind.i64.wrap (IntKind.i64.wrap (ofN (cell 3 o).toRows.length + ofN (cell 1 o).toStr.size) + ofN (cell 2 o).toStr.size)) = c
    cases c with
    | true => exact awake_ok (by omega) k
    | false =>
      rw [cond_false, new_ok, refNew]
      have h60 := (v2 rfl).1
      obtain ⟨b3, b1, b2⟩ := ho _ (List.mem_singleton.2 rfl)
      refine both_loop9 (by omega) (v2 rfl) (rm_le 4000) (k true) _ (fun es fl h g hl => ?_) l.length 0 fu [] [] (by omega) (by omega) (by omega) Rep.nil Good.nil (by simp)
      rw [F26_eq, Fb26]
      obtain ⟨es', q1, q2⟩ := doD_ok (R := R) (fu := fu) (room := rm 4000) (by omega) h g (rm_le 4000) (NO o) (by omega) (by omega)
      refine (q2 _).trans ?_
      rw [h.ok g, cond_true, h.keys g.so]
      refine (reads_loop hf h g _ fl [] fu rfl (by omega)).trans ?_
      refine (same_ok (by omega) h g _).trans ?_
      exact awake_ok (by omega) k

end Go.Proofs.Ytpaecfhgahheaaa.V

/- disk: what data of a call's type is. -/
namespace Go.Proofs.Ytpaecfhgahheaaa.V

theorem reach48 : reachBytes ≤ 281474976710656 := by decide

theorem op_of {o : List D} (h : WFDs ft7 o) : (cell 3 o).toRows.length ≤ 281474976710656 ∧ (cell 1 o).toStr.size ≤ 281474976710656 ∧ (cell 2 o).toStr.size ≤ 281474976710656 := by
  have h1 := (h.cell (j := 1) (ft := FT.str) rfl).str_len
  have h2 := (h.cell (j := 2) (ft := FT.str) rfl).str_len
  have h3 := (h.cell (j := 3) (ft := FT.row 1 [FT.int IntKind.u8]) rfl).rows_len
  have := reach48
  omega

theorem ops_of {d : D} (h : WFD (FT.row 96 ft7) d) : Ops d.toRows := fun o ho => op_of (h.rows o ho)
theorem ops_one {o : List D} (h : WFDs ft7 o) : Ops [NO (NO o)] := fun x hx => by
  have e : x = NO (NO o) := List.mem_singleton.1 hx
  subst e
  exact (op_of h : (cell 3 o).toRows.length ≤ _ ∧ (cell 1 o).toStr.size ≤ _ ∧ (cell 2 o).toStr.size ≤ _)

theorem row_sz {d : D} (h : WFD (FT.row 1 [FT.int IntKind.u8]) d) : d.toRows.length ≤ 4611686018427387904 := by
  have := h.rows_len; have := reach48; omega
theorem str_sz {d : D} (h : WFD FT.str d) : d.toStr.size ≤ 4611686018427387904 := by
  have := h.str_len; have := reach48; omega

end Go.Proofs.Ytpaecfhgahheaaa.V

