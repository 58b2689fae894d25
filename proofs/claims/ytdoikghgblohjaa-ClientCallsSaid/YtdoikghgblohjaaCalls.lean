/- WHAT IS PROVED: the call of ClientCalls answers true, and leaves its arguments as they were, at every input that the given row takes. No condition of its own. -/
import Derived.Test.YtdoikghgblohjaaCalls1
set_option linter.unusedVariables false
set_option linter.unusedSimpArgs false

/- ClientCalls: what its code computes is true. -/
namespace Go.Proofs.Ytdoikghgblohjaa.V
variable {R : Type}

/-- A call, cell by cell. -/
abbrev N7 (r : List D) : List D := [D.int (cell 0 r).toInt, D.int (cell 1 r).toInt, D.int (cell 2 r).toInt, D.str (cell 3 r).toStr, D.int (cell 4 r).toInt, D.int (cell 5 r).toInt, D.int (cell 6 r).toInt, D.int (cell 7 r).toInt, D.int (cell 8 r).toInt, D.str (cell 9 r).toStr, D.bool (cell 10 r).toBool, D.str (cell 11 r).toStr, D.str (cell 12 r).toStr, D.str (cell 13 r).toStr, D.str (cell 14 r).toStr, D.row (cell 15 r).toRows, D.int (cell 16 r).toInt, D.int (cell 17 r).toInt, D.int (cell 18 r).toInt, D.int (cell 19 r).toInt, D.bool (cell 20 r).toBool, D.int (cell 21 r).toInt, D.row (cell 22 r).toRows, D.row (cell 23 r).toRows]

/-- A call that is not long. -/
structure Few7 (r : List D) : Prop where
  b : (cell 15 r).toRows.length ≤ 750
  i : (cell 22 r).toRows.length ≤ 30
  t : (cell 23 r).toRows.length ≤ 30

theorem elem_get {l : List (List D)} {i : Nat} (h : i < l.length) : elem i l = l[i] := by unfold elem; rw [List.getD_eq_getElem?_getD, List.getElem?_eq_getElem h]; rfl

theorem calls_loop (fu : Nat) (W : List (List D)) (hW : W.length ≤ 1000) (hf : ∀ r ∈ W, Few7 r) (k : List (List D) → Option R) : ∀ (n i : Nat), W.length + 1 ≤ i + n → i ≤ W.length →
    F20_58 fu (ofN W.length) W n (i : Int) ((W.take i).map N7) k = k (W.map N7) := by
  intro n
  induction n with
  | zero => intro i h1 h2; omega
  | succ n ih =>
    intro i h1 h2
    unfold F20_58
    by_cases hi : i < W.length
    · have hr := hf _ (List.getElem_mem hi)
      rw [lt_true (show (i : Int) < ofN W.length by unfold ofN; omega), cond_true, within_of hi, cond_true, wrap_succ (by omega), Int.toNat_natCast, elem_get hi]
      rw [F62_ok, F63_ok]
      · rw [List.length_map, List.length_take, fits_of (by omega) (by omega), cond_true]
        have e : (W.take i).map N7 ++ [N7 W[i]] = (W.take (i + 1)).map N7 := by rw [List.take_succ_eq_append_getElem hi, List.map_append]; rfl
        have := ih (i + 1) (by omega) (by omega)
        rw [← e] at this
        exact this
      · have := hr.i; show (cell 22 W[i]).toRows.length ≤ 1000; omega
      · have := hr.t; show (cell 23 W[i]).toRows.length ≤ 1000; omega
      · have := hr.b; show (cell 15 W[i]).toRows.length ≤ 1000; omega
    · rw [lt_false (show ¬ (i : Int) < ofN W.length by unfold ofN; omega), cond_false]
      rw [show i = W.length by omega, List.take_length]

theorem calls_ok (fu : Nat) (id : Int) (o : Bool) (W : List (List D)) (hW : W.length ≤ 900) (hfu : W.length < fu) (hf : ∀ r ∈ W, Few7 r) (k : List (List D) → Option R) : F20 fu id W o k = k (W.map N7) := by
  unfold F20
  exact calls_loop fu W (by omega) hf _ fu 0 (by omega) (by omega)

/-- What an answer took, cell by cell. -/
abbrev NT (r : List D) : List D := [D.int (cell 0 r).toInt, D.int (cell 1 r).toInt, D.str (cell 2 r).toStr, D.str (cell 3 r).toStr, D.str (cell 4 r).toStr]

theorem answer_loop (fu : Nat) (W : List (List D)) (hW : W.length ≤ 1000) (k : List (List D) → Option R) : ∀ (n i : Nat), W.length + 1 ≤ i + n → i ≤ W.length →
    F23_58 fu W (ofN W.length) n (i : Int) ((W.take i).map NT) k = k (W.map NT) := by
  intro n
  induction n with
  | zero => intro i h1 h2; omega
  | succ n ih =>
    intro i h1 h2
    unfold F23_58
    by_cases hi : i < W.length
    · rw [lt_true (show (i : Int) < ofN W.length by unfold ofN; omega), cond_true, within_of hi, cond_true, wrap_succ (by omega), Int.toNat_natCast, elem_get hi, List.length_map, List.length_take, fits_of (by omega) (by omega), cond_true]
      have e : (W.take i).map NT ++ [NT W[i]] = (W.take (i + 1)).map NT := by rw [List.take_succ_eq_append_getElem hi, List.map_append]; rfl
      have := ih (i + 1) (by omega) (by omega)
      rw [← e] at this
      exact this
    · rw [lt_false (show ¬ (i : Int) < ofN W.length by unfold ofN; omega), cond_false]
      rw [show i = W.length by omega, List.take_length]

theorem answer_ok (fu : Nat) (a : List D) (h : (cell 2 a).toRows.length ≤ 900) (hfu : (cell 2 a).toRows.length < fu) (k : List D → Option R) : F23 fu a k = k [D.int (cell 0 a).toInt, D.row (cell 1 a).toRows, D.row ((cell 2 a).toRows.map NT)] := by
  unfold F23
  exact answer_loop fu _ (by omega) _ fu 0 (by omega) (by omega)

theorem alike_ids (fu : Nat) (l : List (List D)) (hl : l.length ≤ 10000) (k0 k1 : Option R) : ∀ (n i : Nat), l.length + 1 ≤ i + n → i ≤ l.length → F22_58 fu (ofN l.length) l l n (i : Int) k0 k1 = k1 := by
  intro n
  induction n with
  | zero => intro i h1 h2; omega
  | succ n ih =>
    intro i h1 h2
    unfold F22_58
    by_cases hi : i < l.length
    · rw [lt_true (show (i : Int) < ofN l.length by unfold ofN; omega), cond_true, within_of hi, cond_true, eq_true rfl, wrap_succ (by omega)]
      exact ih (i + 1) (by omega) (by omega)
    · rw [lt_false (show ¬ (i : Int) < ofN l.length by unfold ofN; omega), cond_false]

theorem alike_took (fu : Nat) (l : List (List D)) (hl : l.length ≤ 10000) (k0 k1 : Option R) : ∀ (n i : Nat), l.length + 1 ≤ i + n → i ≤ l.length → F22_122 fu (ofN l.length) l l n (i : Int) k0 k1 = k1 := by
  intro n
  induction n with
  | zero => intro i h1 h2; omega
  | succ n ih =>
    intro i h1 h2
    unfold F22_122
    by_cases hi : i < l.length
    · rw [lt_true (show (i : Int) < ofN l.length by unfold ofN; omega), cond_true, within_of hi, cond_true, wrap_succ (by omega)]
      simp only [strEq_refl, decide_true, Bool.and_self, Bool.not_true, cond_false, cond_true]
      exact ih (i + 1) (by omega) (by omega)
    · rw [lt_false (show ¬ (i : Int) < ofN l.length by unfold ofN; omega), cond_false]

theorem alike_refl (fu : Nat) (a : List D) (h1 : (cell 1 a).toRows.length ≤ 900) (h2 : (cell 2 a).toRows.length ≤ 900) (hfu : 900 < fu) (k : Bool → Option R) : F22 fu a a k = k true := by
  unfold F22
  rw [eq_true rfl, eq_true rfl, eq_true rfl]
  simp only [Bool.not_true, cond_false]
  have := alike_ids (R := R) fu (cell 1 a).toRows (by omega) (k false) (F22_122 fu (ofN (cell 2 a).toRows.length) (cell 2 a).toRows (cell 2 a).toRows fu 0 (k false) (k true)) fu 0 (by omega) (by omega)
  refine this.trans ?_
  exact alike_took (R := R) fu (cell 2 a).toRows (by omega) (k false) (k true) fu 0 (by omega) (by omega)

theorem same_ok (fu : Nat) (hfu : 901 ≤ fu) (hfu2 : fu ≤ 100000) (r : List D) (hr : Few7 r) (k : Bool → Option R) : F21 fu (N7 r) (N7 r) k = k true := by
  obtain ⟨h1, h2, h3⟩ := hr
  unfold F21
  rw [F27_ok, F27_ok]
  show F26 fu (N5 r) (N5 r) _ = _
  rw [sameCmd_refl fu (N5 r) _ (show (cell 15 r).toRows.length < fu by omega) hfu2]
  simp only [cond_true, decide_true, beq_self_eq_true]
  rw [answer_ok]
  · rw [answer_ok]
    · show F22 fu [D.int (cell 21 r).toInt, D.row (cell 22 r).toRows, D.row ((cell 23 r).toRows.map NT)] [D.int (cell 21 r).toInt, D.row (cell 22 r).toRows, D.row ((cell 23 r).toRows.map NT)] _ = _
      rw [alike_refl]
      · show (cell 22 r).toRows.length ≤ 900; omega
      · show ((cell 23 r).toRows.map NT).length ≤ 900; rw [List.length_map]; omega
      · omega
    · show (cell 23 r).toRows.length ≤ 900; omega
    · show (cell 23 r).toRows.length < fu; omega
  · show (cell 23 r).toRows.length ≤ 900; omega
  · show (cell 23 r).toRows.length < fu; omega

theorem look6 (fu : Nat) (hfu : 901 ≤ fu) (hfu2 : fu ≤ 100000) (W : List (List D)) (hW : W.length ≤ 900) (hf : ∀ r ∈ W, Few7 r) (k0 k1 : Option R) : ∀ (n i : Nat), W.length + 1 ≤ i + n → i ≤ W.length →
    F6_16731390 fu (ofN W.length) W (W.map N7) n (i : Int) k0 k1 = k1 := by
  intro n
  induction n with
  | zero => intro i h1 h2; omega
  | succ n ih =>
    intro i h1 h2
    unfold F6_16731390
    by_cases hi : i < W.length
    · rw [lt_true (show (i : Int) < ofN W.length by unfold ofN; omega), cond_true, within_of (by rw [List.length_map]; exact hi), cond_true, within_of hi, cond_true, wrap_succ (by omega), Int.toNat_natCast]
      have e1 : elem i (W.map N7) = N7 W[i] := by rw [elem_get (by rw [List.length_map]; exact hi), List.getElem_map]
      rw [e1, elem_get hi]
      show F21 fu (N7 W[i]) (N7 W[i]) _ = _
      rw [same_ok fu hfu hfu2 _ (hf _ (List.getElem_mem hi))]
      exact ih (i + 1) (by omega) (by omega)
    · rw [lt_false (show ¬ (i : Int) < ofN W.length by unfold ofN; omega), cond_false]

/-- Behind each thing that happens: all calls stand as they are wanted. -/
theorem stands6 (fu : Nat) (hfu : 901 ≤ fu) (hfu2 : fu ≤ 100000) (c : Int) (o : Bool) (W : List (List D)) (hW : W.length ≤ 800) (hf : ∀ r ∈ W, Few7 r) (ho : o = true → W ≠ []) (k0 k1 : Option R) : F6_522855 fu o c o W W k0 k1 = k1 := by
  unfold F6_522855 F6_4182847
  rw [calls_ok fu c o W (by omega) (by omega) hf]
  have hlast := look6 (R := R) fu hfu hfu2 W (by omega) hf k0 k1 fu 0 (by omega) (by omega)
  cases o with
  | false =>
    rw [shut5]
    rw [List.length_map, eq_true rfl]
    exact hlast
  | true =>
    obtain ⟨W0, c0, rfl⟩ : ∃ W0 c0, W = W0 ++ [c0] := ⟨W.dropLast, W.getLast (ho rfl), (List.dropLast_concat_getLast (ho rfl)).symm⟩
    have hc0 := hf c0 (by simp)
    have hW0 : W0.length ≤ 799 := by rw [List.length_append, List.length_singleton] at hW; omega
    rw [open5 _ _ _ _ (by omega) (by have := hc0.b; omega)]
    have e1 : IntKind.i64.wrap (ofN (W0 ++ [c0]).length - 1) = (W0.length : Int) := by
      rw [List.length_append, List.length_singleton]; unfold ofN; rw [wrap_of (by omega) (by omega)]; omega
    have e2 : elem W0.length (W0 ++ [c0]) = c0 := by unfold elem; simp [List.getD_eq_getElem?_getD]
    rw [show (!(true == true)) = false from rfl, cond_false]
    rw [e1, Int.toNat_natCast, e2, within_of (by simp), cond_true, F27_ok, F27_ok]
    simp only [cond_true]
    show F26 fu (N5 c0) (N5 c0) _ = _
    rw [sameCmd_refl fu (N5 c0) _ (show (cell 15 c0).toRows.length < fu by have := hc0.b; omega) hfu2]
    rw [List.length_map, eq_true rfl]
    exact hlast

/-- The command of a step, cell by cell. -/
abbrev K6 (r : List D) : List D := [D.int (cell 2 r).toInt, D.int (cell 3 r).toInt, D.int (cell 4 r).toInt, D.str (cell 5 r).toStr, D.int (cell 6 r).toInt, D.int (cell 7 r).toInt, D.int (cell 8 r).toInt, D.int (cell 9 r).toInt, D.int (cell 10 r).toInt, D.str (cell 11 r).toStr, D.bool (cell 12 r).toBool, D.str (cell 13 r).toStr, D.str (cell 14 r).toStr, D.str (cell 15 r).toStr, D.str (cell 16 r).toStr, D.row (cell 17 r).toRows, D.int (cell 18 r).toInt, D.int (cell 19 r).toInt]

/-- A step that is not long. -/
structure Step6 (r : List D) : Prop where
  b : (cell 17 r).toRows.length ≤ 750
  i : (cell 21 r).toRows.length ≤ 30
  t : (cell 22 r).toRows.length ≤ 30

/-- While a call is open, it is the last. -/
def Open6 (b : Bool) (W : List (List D)) : Prop := b = true → ∃ W0 id req c t, W = W0 ++ [M5 id req c ++ [D.int t, D.int 0, D.bool false, D.int 0, D.nil, D.nil]]

theorem Open6.ne {b : Bool} {W : List (List D)} (h : Open6 b W) (hb : b = true) : W ≠ [] := by
  obtain ⟨W0, id, req, c, t, rfl⟩ := h hb
  simp

theorem Open6.shut {W : List (List D)} : Open6 false W := fun h => by cases h

theorem ends6 (fu : Nat) (now req : Int) (code : Int) (ids took : List (List D)) (W : List (List D)) (hW : W.length ≤ 800) (hf : ∀ r ∈ W, Few7 r) (ho : Open6 true W) (id : Int) (hi : ids.length ≤ 30) (ht : took.length ≤ 30) (k0 : Bool → List (List D) → Option R) (k1 : Bool → Bool → List (List D) → List (List D) → Option R) :
    ∃ b W', F6_66925405 fu now true (decide (req = ofN W.length)) id true W req code ids took W k0 k1 = k1 b b W' W' ∧ W'.length = W.length ∧ (∀ r ∈ W', Few7 r) ∧ Open6 b W' := by
  unfold F6_66925405
  by_cases hq : req = ofN W.length
  · obtain ⟨W0, id', req', c, t, rfl⟩ := ho rfl
    have hW0 : W0.length ≤ 799 := by rw [List.length_append, List.length_singleton] at hW; omega
    have e0 : req = (W0.length : Int) + 1 := by rw [hq, List.length_append, List.length_singleton]; rfl
    have e1 : IntKind.i64.wrap (ofN (W0 ++ [M5 id' req' c ++ [D.int t, D.int 0, D.bool false, D.int 0, D.nil, D.nil]]).length - 1) = (W0.length : Int) := by
      rw [List.length_append, List.length_singleton]; unfold ofN; rw [wrap_of (by omega) (by omega)]; omega
    have e2 : elem W0.length (W0 ++ [M5 id' req' c ++ [D.int t, D.int 0, D.bool false, D.int 0, D.nil, D.nil]]) = M5 id' req' c ++ [D.int t, D.int 0, D.bool false, D.int 0, D.nil, D.nil] := by unfold elem; simp [List.getD_eq_getElem?_getD]
    rw [eq_true hq, e0, ended5 fu now [D.int code, D.row ids, D.row took] id W0 _ (by omega) (show ids.length ≤ 1000 by omega) (show took.length ≤ 1000 by omega)]
    rw [show (!true == true) = false from rfl, cond_false, cond_true, e1, within_of (by simp), cond_true, cond_true, cond_true, Int.toNat_natCast, e2]
    have hc := hf _ (List.mem_append_right W0 (List.mem_singleton.2 rfl))
    have p1 : ∀ (x : List D) (j : Nat) (ds : List D), putAt (W0 ++ [x]) W0.length j ds = W0 ++ [x.take j ++ ds ++ x.drop (j + ds.length)] := by
      intro x j ds
      have e3 : elem W0.length (W0 ++ [x]) = x := by unfold elem; simp [List.getD_eq_getElem?_getD]
      unfold putAt
      rw [e3]
      simp
    refine ⟨false, W0 ++ [M5 id' req' c ++ [D.int t, D.int now, D.bool true, D.int code, D.row ids, D.row took]], ?_, by simp, ?_, Open6.shut⟩
    · rw [p1, p1, p1, p1]
      rfl
    · intro r hr
      rcases List.mem_append.1 hr with h | h
      · exact hf r (List.mem_append_left _ h)
      · rw [List.mem_singleton] at h
        subst h
        exact ⟨hc.b, hi, ht⟩
  · refine ⟨true, W, ?_, rfl, hf, ho⟩
    rw [eq_false hq]
    unfold F19
    rw [Bool.not_true, cond_false, eq_false hq]
    rfl

theorem main6 (fu : Nat) (hfu : 901 ≤ fu) (hfu2 : fu ≤ 100000) (id : Int) (l : List (List D)) (hl : l.length ≤ 60) (hs : ∀ r ∈ l, Step6 r) (k0 k1 : Option R) : ∀ (n i : Nat) (now : Int) (b : Bool) (W : List (List D)), l.length + 1 ≤ i + n → i ≤ l.length → W.length ≤ i → (∀ r ∈ W, Few7 r) → Open6 b W →
    F6_2042 fu id l (ofN l.length) id n now b (i : Int) b W W k0 k1 = k1 := by
  intro n
  induction n with
  | zero => intro i now b W h1 h2; omega
  | succ n ih =>
    intro i now b W h1 h2 hW hf ho
    unfold F6_2042
    by_cases hi : i < l.length
    · rw [lt_true (show (i : Int) < ofN l.length by unfold ofN; omega), cond_true, within_of hi, cond_true, wrap_succ (by omega), Int.toNat_natCast]
      have hr := hs _ (List.getElem_mem hi)
      rw [elem_get hi]
      generalize l[i] = r at hr ⊢
      generalize IntKind.i64.wrap (now + 1) = t
      have next : ∀ (b' : Bool) (W' : List (List D)), W'.length ≤ i + 1 → (∀ r ∈ W', Few7 r) → Open6 b' W' → F6_522855 fu b' id b' W' W' k0 (F6_2042 fu id l (ofN l.length) id n t b' ((i + 1 : Nat) : Int) b' W' W' k0 k1) = k1 := by
        intro b' W' g1 g2 g3
        rw [stands6 fu hfu hfu2 id b' W' (by omega) g2 g3.ne]
        exact ih (i + 1) t b' W' (by omega) (by omega) g1 g2 g3
      by_cases h0 : (cell 0 r).toInt = 0
      · rw [eq_true h0, cond_true]
        cases b with
        | true =>
          unfold F18
          rw [cond_true]
          exact next true W (by omega) hf ho
        | false =>
          refine (begin5 fu t (K6 r) id W (by omega) (show (cell 17 r).toRows.length ≤ 1000 by have := hr.b; omega) _ _).trans ?_
          unfold F6_16731349 F6_33462699
          have hw : IntKind.i64.wrap (ofN W.length + 1) = (W.length : Int) + 1 := by unfold ofN; rw [wrap_of (by omega) (by omega)]
          rw [show (decide ((0 : Int) = 0) == false) = false from rfl, cond_false, show (!decide ((0 : Int) = 0)) = false from rfl, cond_false, show decide ((0 : Int) = 0) = true from rfl, cond_true]
          rw [hw, F27_ok, F27_ok, fits_of (by omega) (by omega)]
          show F26 fu (M5 id ((W.length : Int) + 1) (K6 r)) (M5 id ((W.length : Int) + 1) (K6 r)) _ = _
          rw [sameCmd_refl fu (M5 id ((W.length : Int) + 1) (K6 r)) _ (show (cell 17 r).toRows.length < fu by have := hr.b; omega) hfu2]
          refine next true (W ++ [M5 id ((W.length : Int) + 1) (K6 r) ++ [D.int t, D.int 0, D.bool false, D.int 0, D.nil, D.nil]]) ?_ ?_ ?_
          · simp; omega
          · intro q hq
            rcases List.mem_append.1 hq with h | h
            · exact hf q h
            · rw [List.mem_singleton] at h
              subst h
              exact ⟨hr.b, Nat.zero_le _, Nat.zero_le _⟩
          · exact fun _ => ⟨_, _, _, _, _, rfl⟩
      · rw [eq_false h0, cond_false]
        by_cases h1' : (cell 0 r).toInt = 1
        · rw [eq_true h1', cond_true]
          cases b with
          | true =>
            rw [cond_true]
            obtain ⟨b', W', e, g1, g2, g3⟩ := ends6 fu t (cell 1 r).toInt (cell 20 r).toInt (cell 21 r).toRows (cell 22 r).toRows W (by omega) hf ho id hr.i hr.t (fun o_4 o_5 => k0) (fun o_6 o_7 o_8 o_9 => F6_522855 fu o_6 id o_7 o_8 o_9 k0 (F6_2042 fu id l (ofN l.length) id n t o_6 ((i + 1 : Nat) : Int) o_7 o_8 o_9 k0 k1))
            exact e.trans (next b' W' (by omega) g2 g3)
          | false =>
            exact next false W (by omega) hf ho
        · rw [eq_false h1', cond_false]
          unfold F24
          cases b with
          | true => exact next false W (by omega) hf Open6.shut
          | false => exact next false W (by omega) hf Open6.shut
    · rw [lt_false (show ¬ (i : Int) < ofN l.length by unfold ofN; omega), cond_false]

/-- What few asks of the steps. -/
theorem few6 (fu : Nat) (l : List (List D)) (hl : l.length < 140737488355328) (hc : ∀ r ∈ l, CmdSz (K6 r)) (k0 k1 : List (List D) → Option R) : ∀ (n i : Nat), 62 ≤ i + n → i ≤ l.length → i ≤ 61 → (∀ j, j < i → (hj : j < l.length) → (cell 21 l[j]).toRows.length ≤ 30 ∧ (cell 22 l[j]).toRows.length ≤ 30) →
    ∃ A : List (List D), (∀ r ∈ A, CmdSz r) ∧ (F28_58 fu l n (i : Int) ((l.take i).map K6) k0 k1 = k0 A ∨
      (F28_58 fu l n (i : Int) ((l.take i).map K6) k0 k1 = k1 A ∧ (l.length ≤ 60 → A = l.map K6 ∧ ∀ r ∈ l, (cell 21 r).toRows.length ≤ 30 ∧ (cell 22 r).toRows.length ≤ 30))) := by
  intro n
  induction n with
  | zero => intro i h1 h2 h3; omega
  | succ n ih =>
    intro i h1 h2 h3 hp
    have hA : ∀ i, ∀ r ∈ (l.take i).map K6, CmdSz r := by
      intro i r hr
      obtain ⟨q, hq, rfl⟩ := List.mem_map.1 hr
      exact hc q (List.mem_of_mem_take hq)
    unfold F28_58
    by_cases hi : i < l.length
    · rw [lt_true (show (i : Int) < ofN l.length by unfold ofN; omega), cond_true]
      by_cases h60 : i ≤ 60
      · rw [le_true (show (i : Int) ≤ 60 by omega), cond_true, within_of hi, cond_true, cond_true, cond_true, wrap_succ (by omega), Int.toNat_natCast, elem_get hi, List.length_map, List.length_take, fits_of (by omega) (by omega), cond_true]
        have e : (l.take i).map K6 ++ [K6 l[i]] = (l.take (i + 1)).map K6 := by rw [List.take_succ_eq_append_getElem hi, List.map_append]; rfl
        by_cases q1 : (cell 21 l[i]).toRows.length ≤ 30
        · by_cases q2 : (cell 22 l[i]).toRows.length ≤ 30
          · rw [lt_false (show ¬ (30 : Int) < ofN (cell 21 l[i]).toRows.length by unfold ofN; omega), cond_false, lt_false (show ¬ (30 : Int) < ofN (cell 22 l[i]).toRows.length by unfold ofN; omega), cond_false]
            obtain ⟨A, a1, a2⟩ := ih (i + 1) (by omega) (by omega) (by omega) (fun j hj hj' => by
              by_cases h : j = i
              · subst h; exact ⟨q1, q2⟩
              · exact hp j (by omega) hj')
            rw [← e] at a2
            exact ⟨A, a1, a2⟩
          · rw [lt_false (show ¬ (30 : Int) < ofN (cell 21 l[i]).toRows.length by unfold ofN; omega), cond_false, lt_true (show (30 : Int) < ofN (cell 22 l[i]).toRows.length by unfold ofN; omega), cond_true]
            have := hA (i + 1)
            rw [← e] at this
            exact ⟨_, this, .inl rfl⟩
        · rw [lt_true (show (30 : Int) < ofN (cell 21 l[i]).toRows.length by unfold ofN; omega), cond_true]
          have := hA (i + 1)
          rw [← e] at this
          exact ⟨_, this, .inl rfl⟩
      · rw [le_false (show ¬ (i : Int) ≤ 60 by omega), cond_false]
        exact ⟨_, hA i, .inr ⟨rfl, fun h => by omega⟩⟩
    · rw [lt_false (show ¬ (i : Int) < ofN l.length by unfold ofN; omega), cond_false]
      refine ⟨_, hA i, .inr ⟨rfl, fun h => ?_⟩⟩
      rw [show i = l.length by omega, List.take_length]
      refine ⟨rfl, fun r hr => ?_⟩
      obtain ⟨j, hj, rfl⟩ := List.getElem_of_mem hr
      exact hp j (by omega) hj

/-- What follows when few has answered. -/
noncomputable def rest6 (fu : Nat) (id now : Int) (l : List (List D)) (o0 : Bool) : Option Bool := bif !o0 then F16 fu fun o1 => some o1 else bif decide (now < 0) then F16 fu fun o2 => some o2 else bif decide (1099511627776 < now) then F16 fu fun o3 => some o3 else F17 fu id (bif decide (id < 1) then F16 fu fun o4 => some o4 else bif decide (60 < id) then F16 fu fun o5 => some o5 else some false) (bif decide (id < 1) then some false else bif decide (60 < id) then some false else F29 fu id [] false (bif !decide (id = id) then some false else F6_2042 fu id l (ofN l.length) id fu now false 0 false [] [] (some false) (F16 fu fun o6 => some o6)))

theorem rest6_false (fu : Nat) (aw : ∀ k : Bool → Option Bool, F16 fu k = k true) (id now : Int) (l : List (List D)) : rest6 fu id now l false = some true := by
  unfold rest6
  rw [Bool.not_false, cond_true, aw]

theorem rest6_true (fu : Nat) (hfu : 901 ≤ fu) (hfu2 : fu ≤ 100000) (aw : ∀ k : Bool → Option Bool, F16 fu k = k true) (id now : Int) (l : List (List D)) (hl60 : l.length ≤ 60) (hs : ∀ r ∈ l, Step6 r) : rest6 fu id now l true = some true := by
  unfold rest6
  rw [Bool.not_true, cond_false]
  by_cases n1 : now < 0
  · rw [lt_true n1, cond_true, aw]
  · by_cases n2 : 1099511627776 < now
    · rw [lt_false n1, lt_true n2, cond_false, cond_true, aw]
    · rw [lt_false n1, lt_false n2, cond_false, cond_false]
      unfold F17 F29
      by_cases i1 : id < 1
      · rw [lt_true i1, cond_true, cond_true, aw]
      · by_cases i2 : 60 < id
        · rw [lt_false i1, lt_true i2, cond_false, cond_true, cond_false, cond_true, aw]
        · rw [lt_false i1, lt_false i2, cond_false, cond_false, cond_false, cond_false, eq_true rfl, Bool.not_true, cond_false]
          have := main6 (R := Bool) fu hfu hfu2 id l hl60 hs (some false) (F16 fu fun o6 => some o6) fu 0 now false [] (by omega) (by omega) (by simp) (by simp) Open6.shut
          exact this.trans (aw _)

theorem F6_eq (fu : Nat) (id now : Int) (l : List (List D)) : F6 fu id now l (fun o => some o) = F28 fu l (rest6 fu id now l) := rfl

theorem calls6_fu (fu : Nat) (hfu : 901 ≤ fu) (hfu2 : fu ≤ 100000) (aw : ∀ k : Bool → Option Bool, F16 fu k = k true) (id now : Int) (l : List (List D)) (hl : l.length < 140737488355328) (hc : ∀ r ∈ l, CmdSz (K6 r)) : F6 fu id now l (fun o => some o) = some true := by
  rw [F6_eq]
  unfold F28
  obtain ⟨A, a1, a2⟩ := few6 (R := Bool) fu l hl hc (fun o0 => rest6 fu id now l false) (fun o1 => bif decide (ofN l.length ≤ 60) then F15 fu o1 fun o2 => rest6 fu id now l o2 else rest6 fu id now l false) fu 0 (by omega) (by omega) (by omega) (fun j hj => by omega)
  rcases a2 with a2 | ⟨a2, a3⟩
  · exact a2.trans (rest6_false fu aw id now l)
  · refine a2.trans ?_
    by_cases hl60 : l.length ≤ 60
    · obtain ⟨a4, a5⟩ := a3 hl60
      rw [le_true (show ofN l.length ≤ 60 by unfold ofN; omega), cond_true]
      obtain ⟨b, h1, h2⟩ := few_told (R := Bool) fu (by omega) A a1 (fun o2 => rest6 fu id now l o2)
      refine h1.trans ?_
      cases b with
      | false => exact rest6_false fu aw id now l
      | true =>
        have hb := (h2 rfl).2
        have hs : ∀ r ∈ l, Step6 r := fun r hr => ⟨hb (K6 r) (by rw [a4]; exact List.mem_map_of_mem hr), (a5 r hr).1, (a5 r hr).2⟩
        exact rest6_true fu hfu hfu2 aw id now l hl60 hs
    · rw [le_false (show ¬ ofN l.length ≤ 60 by unfold ofN; omega), cond_false]
      exact rest6_false fu aw id now l

theorem calls6 (id now : Int) (l : List (List D)) (hl : l.length < 140737488355328) (hc : ∀ r ∈ l, CmdSz (K6 r)) : F6 1000 id now l (fun o => some o) = some true :=
  calls6_fu 1000 (by omega) (by omega) (awake16 998) id now l hl hc
end Go.Proofs.Ytdoikghgblohjaa.V

/- Sizes of a step as it comes. -/
namespace Go.Proofs.Ytdoikghgblohjaa.V
theorem stepSz_of {ds : List D} (h : WFDs ft9 ds) : CmdSz (K6 ds) := by
  have r := reach_lt
  have st : ∀ j, ft9[j]? = some FT.str → (cell j ds).toStr.size < 140737488355328 := fun j hj => Nat.lt_of_le_of_lt (h.cell hj).str_len r
  refine ⟨st 5 rfl, st 11 rfl, st 13 rfl, st 14 rfl, st 15 rfl, st 16 rfl, ?_, fun x hx => ?_⟩
  · have := (h.cell (j := 17) rfl).rows_len; show (cell 17 ds).toRows.length < _; omega
  · exact Nat.lt_of_le_of_lt (((h.cell (j := 17) rfl).rows x hx).cell (j := 0) rfl).str_len r
end Go.Proofs.Ytdoikghgblohjaa.V

namespace Go.Proofs.Ytdoikghgblohjaa

theorem calls_holds : Rows.ClientCallsSaid := calls_join (V.law6 1000 fun ds1 ds2 ds3 _ _ h3 => V.calls6 _ _ _ (by have r := V.reach_lt; have := (h3.cell (j := 0) rfl).rows_len; omega) (fun r hr => V.stepSz_of ((h3.cell (j := 0) rfl).rows r hr)))

end Go.Proofs.Ytdoikghgblohjaa

