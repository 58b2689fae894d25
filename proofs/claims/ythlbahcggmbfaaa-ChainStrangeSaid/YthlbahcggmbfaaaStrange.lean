/- WHAT IS PROVED: the call of ChainStrange answers true, and leaves its arguments as they were, at every input that the given row takes. No condition of its own. -/
import Derived.Test.YthlbahcggmbfaaaStrange2
set_option linter.unusedVariables false
set_option linter.unusedSimpArgs false

namespace Go.Proofs.Ythlbahcggmbfaaa.V
variable {R : Type}
theorem contains_ok (fu : Nat) (s : List (List D)) (v : Int) (hs : s.length ≤ 1000) (hf : 1001 ≤ fu) (k : Bool → Option R) : F60 fu s v k = k (decide (0 ≤ atL s v)) := by
 rw [F60_eq]; unfold Fb60; exact index_ok fu s v hs hf _
theorem members_loop (fu : Nat) (hf : 1001 ≤ fu) (l : List (List D)) (hl : l.length ≤ 100) (hg : ∀ i < l.length, ((0 ≤ (cell 0 (elem i l)).toInt ∧ (cell 0 (elem i l)).toInt < 100) ∧ atL (part l 0 i) (cell 0 (elem i l)).toInt < 0)) (k0 k1 : Option R) : ∀ (n i : Nat), l.length + 1 ≤ i + n → i ≤ l.length →
  F56_26 fu l l (ofN l.length) n (i : Int) k0 k1 = k1 := by
 intro n
 induction n with
 | zero => intro i h1 h2; omega
 | succ n ih =>
  intro i h1 h2
  unfold F56_26
  by_cases hi : i < l.length
  · obtain ⟨g1, g2⟩ := hg i hi
   rw [lt_true (show (i : Int) < ofN l.length by unfold ofN; omega), cond_true, within_of hi, cond_true, Int.toNat_natCast, node_ok, decide_eq_true g1]
   have q : (decide ((0 : Int) ≤ 0 ∧ 0 ≤ (i : Int)) && upTo (i : Int) l.length) = true := by
    unfold upTo; rw [Bool.and_eq_true]; exact ⟨decide_eq_true ⟨Int.le_refl _, by omega⟩, decide_eq_true ⟨by omega, by omega⟩⟩
   have hp : (part l 0 i).length ≤ 1000 := by unfold part; simp only [List.length_drop, List.length_take]; omega
   rw [Bool.not_true, cond_false, q, cond_true, contains_ok fu _ _ hp hf, le_false (by omega), cond_false, wrap_succ (by omega)]
   exact ih (i + 1) (by omega) (by omega)
  · rw [lt_false (show ¬ (i : Int) < ofN l.length by unfold ofN; omega), cond_false]
def memsL (m : Nat) : List (List D) := (List.range m).map fun k => [D.int (k : Nat)]
theorem memsL_len (m : Nat) : (memsL m).length = m := by simp [memsL]
theorem memsL_succ (m : Nat) : memsL (m + 1) = memsL m ++ [[D.int (m : Nat)]] := by simp [memsL, List.range_succ]
theorem members_ok (fu : Nat) (hf : 1001 ≤ fu) (m : Nat) (h1 : 1 ≤ m) (h2 : m ≤ 4) (k : Bool → Option R) : F56 fu (memsL m) k = k true := by
 rw [F56_eq]
 unfold Fb56
 have hl := memsL_len m
 have hg : ∀ i < (memsL m).length, ((0 ≤ (cell 0 (elem i (memsL m))).toInt ∧ (cell 0 (elem i (memsL m))).toInt < 100) ∧ atL (part (memsL m) 0 i) (cell 0 (elem i (memsL m))).toInt < 0) := by
  have : m = 1 ∨ m = 2 ∨ m = 3 ∨ m = 4 := by omega
  rcases this with rfl | rfl | rfl | rfl <;> decide
 have := members_loop (R := R) fu hf (memsL m) (by omega) hg (k false) (bif decide (1 ≤ ofN (memsL m).length) then (k (decide (ofN (memsL m).length ≤ 7))) else (k false)) fu 0 (by omega) (by omega)
 refine this.trans ?_
 rw [hl, le_true (show (1 : Int) ≤ ofN m by unfold ofN; omega), cond_true, le_true (show ofN m ≤ 7 by unfold ofN; omega)]
def rep0 (k : Nat) : Rep := ⟨(k : Nat), 0, [], false, [], false, 0, 0, 0, 0, false, 0⟩
def reps (n : Nat) : List Rep := (List.range n).map rep0
theorem reps_succ (n : Nat) : reps (n + 1) = reps n ++ [rep0 n] := by simp [reps, List.range_succ]
theorem new0 {fu : Nat} (x : Int) (k : Int → List (List D) → Bool → List (List D) → Option R) : F29 fu x [D.int 0, D.row [], D.bool false, D.row []] k = k 0 [] false [] :=
 new_ok (rep0 0) x (by simp [rep0]) (by simp [rep0]) k
theorem begin_loop (fu : Nat) (many : Nat) (hm : many ≤ 4) (k0 : List (List D) → List (List D) → Option R) : ∀ (n i : Nat), 6 ≤ i + n → i ≤ 5 →
  F11_250 fu (many : Int) n (i : Int) (memsL (min i many)) (cellsL (reps i)) k0 = k0 (memsL many) (cellsL (reps 5)) := by
 intro n
 induction n with
 | zero => intro i h1 h2; omega
 | succ n ih =>
  intro i h1 h2
  unfold F11_250
  by_cases hi : i < 5
  · have hy : cellsL (reps i) ++ [[D.int (i : Nat), D.int 0, D.row [], D.bool false, D.row [], D.bool false, D.int 0, D.int 0, D.int 0, D.int 0, D.bool false, D.int 0]] = cellsL (reps (i + 1)) := by
    rw [reps_succ]; simp [cellsL, rep0, Rep.cells]
   have hyl : (cellsL (reps i)).length = i := by simp [cellsL, reps]
   have hml := memsL_len (min i many)
   rw [lt_true (show (i : Int) < 5 by omega), cond_true, hyl, hml]
   by_cases hb : i < many
   · rw [lt_true (show (i : Int) < (many : Int) by omega), cond_true, fits_of (by omega) (by omega), cond_true, new0, fits_of (by omega) (by omega), cond_true, hy, wrap_succ (by omega)]
    have e : memsL (min i many) ++ [[D.int (i : Nat)]] = memsL (min (i + 1) many) := by
     rw [show min (i + 1) many = i + 1 by omega, show min i many = i by omega, memsL_succ]
    rw [e]
    exact ih (i + 1) (by omega) (by omega)
   · rw [lt_false (show ¬ (i : Int) < (many : Int) by omega), cond_false, new0, fits_of (by omega) (by omega), cond_true, hy, wrap_succ (by omega), show min i many = min (i + 1) many by omega]
    exact ih (i + 1) (by omega) (by omega)
  · rw [lt_false (show ¬ (i : Int) < 5 by omega), cond_false, show i = 5 by omega, show min 5 many = many by omega]
def Cf.first (m : Nat) : Cf := ⟨1, memsL m, false⟩
def Ward.begin (m : Nat) : Ward := ⟨reps 5, [(Cf.first m).d], [], [], 0, false, Cf.first m⟩
theorem begin_Inv (m : Nat) (hm : m ≤ 4) : (Ward.begin m).Inv 0 := by
 have hl := memsL_len m
 refine ⟨by simp [Ward.begin, reps], ?_, by simp [Ward.begin], by simp [Ward.begin], ?_, by simp [Ward.begin], by simp [Ward.begin], by show (memsL m).length ≤ 100; omega⟩
 · intro r hr
  obtain ⟨k, _, rfl⟩ := List.mem_map.1 hr
  exact ⟨by simp [rep0], by simp [rep0], Int.le_refl _, Int.le_refl _, Int.le_refl _, Int.le_refl _, Int.le_refl _, Int.le_refl _⟩
 · intro c hc
  rw [show (Ward.begin m).all = [(Cf.first m).d] from rfl, List.mem_singleton] at hc
  subst hc
  show (memsL m).length ≤ 100; omega
theorem or4 (kd sh ep nd : Int) (mb : List (List D)) : (cell 4 [D.int kd, D.int sh, D.int ep, D.int nd, D.row mb]).toRows = mb := of_eq_true (eq_self _)
theorem start_ok (fu : Nat) (hf : 1001 ≤ fu) (m : Nat) (h1 : 1 ≤ m) (h2 : m ≤ 4) (k0 : Int → List (D × List D) → Option R) :
  F35v fu [D.int 0, D.int 0, D.int 0, D.int 0, D.row (memsL m)] [] k0 = k0 0 (Cf.first m).tab := by
 rw [F35v_eq]
 unfold Fb35v
 simp only [or0, or1, or2, or3, or4]
 have hl := memsL_len m
 rw [lt_false (show ¬ (0 : Int) < 0 by omega), cond_false, lt_false (show ¬ (3 : Int) < 0 by omega), cond_false, cond_false, le_false (show ¬ (10 : Int) ≤ 0 by omega), cond_false, decide_true, cond_true, show mhas ([] : List (D × List D)) (D.int 0) = false from rfl, cond_false, members_ok fu hf m h1 h2, Bool.not_true, cond_false, fits_of (by omega) (by omega), cond_true]
 rfl
theorem begin_ok {fu : Nat} (hf : 1001 ≤ fu) (m : Nat) (h1 : 1 ≤ m) (h2 : m ≤ 4) (k0 : Option R) (k1 : List (List D) → List (List D) → List (D × List D) → Option R) :
  F11 fu (m : Int) k0 k1 = k1 (cellsL (Ward.begin m).rs) (Ward.begin m).all (Ward.begin m).c.tab := by
 rw [F11_eq]
 unfold Fb11
 rw [F34_eq]
 unfold Fb34
 have := begin_loop (R := R) fu m h2 (fun o_0 o_1 => F35v fu [D.int 0, D.int 0, D.int 0, D.int 0, D.row o_0] [] fun o_2 o_3 => bif !decide (o_2 = 0) then (k0) else F36 fu o_1 [] [] [] 0 false o_3 fun o_4 => (k1 o_1 o_4 o_3)) fu 0 (by omega) (by omega)
 refine this.trans ?_
 rw [start_ok fu hf m h1 h2, eq_true (show (0 : Int) = 0 from rfl), Bool.not_true, cond_false, note_ok fu (Cf.first m) (by have := memsL_len m; show (memsL m).length ≤ 100; omega) (cellsL (reps 5)) [] [] [] 0 false (by simp)]
 rfl
def Ward.op3 (w : Ward) (o : List D) : Ward := w.does (cell 0 o).toInt (cell 1 o).toInt (cell 2 o).toInt
def Ward.all3 (w : Ward) : List (List D) → Ward
 | [] => w
 | o :: l => (w.op3 o).all3 l
theorem all3_Inv : ∀ (l : List (List D)) (w : Ward) (n : Nat), w.Inv n → (w.all3 l).Inv (n + l.length)
 | [], _, _, h => h
 | o :: l, w, n, h => by
  have := all3_Inv l (w.op3 o) (n + 1) (Ward.does_Inv h _ _ _)
  rw [List.length_cons, show n + (l.length + 1) = n + 1 + l.length by omega]
  exact this
def ops3 : List (List D) := [[D.int 5, D.int 0, D.int (-1)], [D.int 5, D.int 1, D.int (-1)], [D.int 0, D.int 0, D.int 0]]
theorem awake_loop1 {fu : Nat} (hf : 1001 ≤ fu) (k0 : List (List D) → Int → Bool → List (List D) → List (List D) → List (List D) → List (D × List D) → Option R) : ∀ (n i m : Nat) (w : Ward), w.Inv m → m + 3 ≤ 900 + i → 4 ≤ i + n → i ≤ 3 →
  F10_122 fu 3 ops3 n (i : Int) w.best w.next w.bad (cellsL w.rs) w.all w.way w.c.tab k0 = k0 (w.all3 (ops3.drop i)).best (w.all3 (ops3.drop i)).next (w.all3 (ops3.drop i)).bad (cellsL (w.all3 (ops3.drop i)).rs) (w.all3 (ops3.drop i)).all (w.all3 (ops3.drop i)).way (w.all3 (ops3.drop i)).c.tab := by
 intro n
 induction n with
 | zero => intro i m w h h1 h2 h3; omega
 | succ n ih =>
  intro i m w h h1 h2 h3
  unfold F10_122
  by_cases hi : i < 3
  · have hl : i < ops3.length := hi
   rw [lt_true (show (i : Int) < 3 by omega), cond_true, within_of hl, cond_true, Int.toNat_natCast, wrap_succ (by omega)]
   have hd : ops3.drop i = elem i ops3 :: ops3.drop (i + 1) := by
    rw [List.drop_eq_getElem_cons hl]; unfold elem; rw [List.getD_eq_getElem?_getD, List.getElem?_eq_getElem hl]; rfl
   have := does_ok (R := R) hf (by omega) w h [D.int (cell 0 (elem i ops3)).toInt, D.int (cell 1 (elem i ops3)).toInt, D.int (cell 2 (elem i ops3)).toInt] (fun b x bd r l y t => F10_122 fu 3 ops3 n ((i + 1 : Nat) : Int) b x bd r l y t k0) _ _ _ _ _ (fun _ _ _ _ _ => rfl) (fun _ _ _ _ => rfl) (fun _ _ _ _ => rfl) (fun _ _ _ => rfl) (fun _ _ _ _ _ => rfl)
   refine this.trans ?_
   rw [hd]
   exact ih (i + 1) (m + 1) (w.op3 (elem i ops3)) (Ward.does_Inv h _ _ _) (by omega) (by omega) (by omega)
  · rw [lt_false (show ¬ (i : Int) < 3 by omega), cond_false, List.drop_eq_nil_of_le (show ops3.length ≤ i by show 3 ≤ i; omega)]
   rfl
def comeOp : List D := [D.int 2, D.int 0, D.int 0]
theorem awake_loop2 {fu : Nat} (hf : 1001 ≤ fu) (k0 : List (List D) → Int → Bool → List (List D) → List (List D) → List (List D) → List (D × List D) → Option R) : ∀ (n i m : Nat) (w : Ward), w.Inv m → m + 9 ≤ 900 + i → 10 ≤ i + n → i ≤ 9 →
  F10_250 fu n (i : Int) w.best w.next w.bad (cellsL w.rs) w.all w.way w.c.tab k0 = k0 (w.all3 (List.replicate (9 - i) comeOp)).best (w.all3 (List.replicate (9 - i) comeOp)).next (w.all3 (List.replicate (9 - i) comeOp)).bad (cellsL (w.all3 (List.replicate (9 - i) comeOp)).rs) (w.all3 (List.replicate (9 - i) comeOp)).all (w.all3 (List.replicate (9 - i) comeOp)).way (w.all3 (List.replicate (9 - i) comeOp)).c.tab := by
 intro n
 induction n with
 | zero => intro i m w h h1 h2 h3; omega
 | succ n ih =>
  intro i m w h h1 h2 h3
  unfold F10_250
  by_cases hi : i < 9
  · rw [lt_true (show (i : Int) < 9 by omega), cond_true, wrap_succ (by omega)]
   have hd : List.replicate (9 - i) comeOp = comeOp :: List.replicate (9 - (i + 1)) comeOp := by
    rw [show 9 - i = (9 - (i + 1)) + 1 by omega, List.replicate_succ]
   have := does_ok (R := R) hf (by omega) w h comeOp (fun b x bd r l y t => F10_250 fu n ((i + 1 : Nat) : Int) b x bd r l y t k0) _ _ _ _ _ (fun _ _ _ _ _ => rfl) (fun _ _ _ _ => rfl) (fun _ _ _ _ => rfl) (fun _ _ _ => rfl) (fun _ _ _ _ _ => rfl)
   refine this.trans ?_
   rw [hd]
   exact ih (i + 1) (m + 1) (w.op3 comeOp) (Ward.does_Inv h _ _ _) (by omega) (by omega) (by omega)
  · rw [lt_false (show ¬ (i : Int) < 9 by omega), cond_false, show 9 - i = 0 by omega]
   rfl
def aw : Ward := ((Ward.begin 2).all3 ops3).all3 (List.replicate 9 comeOp)
theorem aw_ok : aw.bad = false ∧ (nthR aw.rs 0).commit = 1 ∧ (nthR aw.rs 1).commit = 1 ∧ (nthR aw.rs 0).head = true ∧ (nthR aw.rs 1).tail = true ∧ (nthR aw.rs 2).live = false := by decide +kernel
theorem aw_Inv : aw.Inv 12 := all3_Inv _ _ _ (all3_Inv _ _ _ (begin_Inv 2 (by omega)))
theorem live_ok {fu : Nat} (r : Rep) (k : Option R) : F21 fu r.id r.ep r.mem r.join r.row r.live r.commit r.told r.acked r.base r.heard r.need k = k := by
 rw [F21_eq]; rfl
theorem awake_ok {fu : Nat} (hf : 1001 ≤ fu) (k : Bool → Option R) : F10 fu k = k true := by
 rw [F10_eq]
 unfold Fb10
 refine (begin_ok (R := R) hf 2 (by omega) (by omega) _ _).trans ?_
 refine (awake_loop1 (R := R) hf _ fu 0 0 (Ward.begin 2) (begin_Inv 2 (by omega)) (by omega) (by omega) (by omega)).trans ?_
 refine (awake_loop2 (R := R) hf _ fu 0 3 ((Ward.begin 2).all3 ops3) (all3_Inv _ _ _ (begin_Inv 2 (by omega))) (by omega) (by omega) (by omega)).trans ?_
 have haw : ((Ward.begin 2).all3 ops3).all3 (List.replicate (9 - 0) comeOp) = aw := rfl
 rw [haw]
 have hi := aw_Inv
 obtain ⟨a1, a2, a3, a4, a5, a6⟩ := aw_ok
 have h5 := hi.five
 generalize aw = w at *
 have h0 : 0 < w.rs.length := by omega
 have h1 : 1 < w.rs.length := by omega
 have h2 : 2 < w.rs.length := by omega
 have m0 := (hi.ok _ (nthR_mem h0)).mem
 have m1 := (hi.ok _ (nthR_mem h1)).mem
 have w0 : within 0 (cellsL w.rs).length = true := within_int (by omega) (by rw [cellsL_len]; omega)
 have w1 : within 1 (cellsL w.rs).length = true := within_int (by omega) (by rw [cellsL_len]; omega)
 have w2 : within 2 (cellsL w.rs).length = true := within_int (by omega) (by rw [cellsL_len]; omega)
 simp only [a1, Bool.not_false, cond_true, w0, w1, w2, letR, letD, elem_nth h0, elem_nth h1, elem_nth h2, c0, c1, c2, c3, c4, c5, c6, c7, c8, c9, c10, c11, commit_ok, live_ok, nth_same h0, nth_same h1, nth_same h2, head_ok (R := R) (r := nthR w.rs 0) hf (show (nthR w.rs 0).mem.length ≤ 1000 by omega), tail_ok (R := R) (r := nthR w.rs 1) hf (show (nthR w.rs 1).mem.length ≤ 1000 by omega)]
 simp only [a2, a3, a4, a5, a6, decide_true, cond_true, Bool.not_false]
end Go.Proofs.Ythlbahcggmbfaaa.V

namespace Go.Proofs.Ythlbahcggmbfaaa.V
variable {R : Type}
theorem run_ok {fu : Nat} (hf : 1001 ≤ fu) (l : List (List D)) (hll : l.length ≤ 100000) (k0 : List (List D) → Int → Bool → List (List D) → List (List D) → List (List D) → List (D × List D) → Option R)
  (L : Nat → Int → List (List D) → Int → Bool → List (List D) → List (List D) → List (List D) → List (D × List D) → Option R)
  (step : ∀ n i a b c d e f g, L (n + 1) i a b c d e f g = bif decide (i < ofN l.length) then bif within i l.length then F13 fu [D.int (cell 0 (elem i.toNat l)).toInt, D.int (cell 1 (elem i.toNat l)).toInt, D.int (cell 2 (elem i.toNat l)).toInt] d e f a b c g (fun o_0 o_1 o_2 o_3 o_4 => L n (IntKind.i64.wrap (i + 1)) o_0 o_1 o_2 o_3 e o_4 g) (fun o_5 o_6 o_7 o_8 => L n (IntKind.i64.wrap (i + 1)) o_5 b o_6 o_7 e o_8 g) (fun o_9 o_10 o_11 o_12 => L n (IntKind.i64.wrap (i + 1)) o_9 b o_10 o_11 e f o_12) (fun o_13 o_14 o_15 => L n (IntKind.i64.wrap (i + 1)) o_13 b o_14 o_15 e f g) (fun o_16 o_17 o_18 o_19 o_20 => L n (IntKind.i64.wrap (i + 1)) o_16 b o_17 o_18 o_20 f o_19) else none else k0 a b c d e f g) :
  ∀ (n i m : Nat) (w : Ward), w.Inv m → m + l.length ≤ 900 + i → l.length + 1 ≤ i + n → i ≤ l.length →
  L n (i : Int) w.best w.next w.bad (cellsL w.rs) w.all w.way w.c.tab = k0 (w.all3 (l.drop i)).best (w.all3 (l.drop i)).next (w.all3 (l.drop i)).bad (cellsL (w.all3 (l.drop i)).rs) (w.all3 (l.drop i)).all (w.all3 (l.drop i)).way (w.all3 (l.drop i)).c.tab := by
 intro n
 induction n with
 | zero => intro i m w h h1 h2 h3; omega
 | succ n ih =>
  intro i m w h h1 h2 h3
  rw [step]
  by_cases hi : i < l.length
  · rw [lt_true (show (i : Int) < ofN l.length by unfold ofN; omega), cond_true, within_of hi, cond_true, Int.toNat_natCast, wrap_succ (by omega)]
   have hd : l.drop i = elem i l :: l.drop (i + 1) := by
    rw [List.drop_eq_getElem_cons hi]; unfold elem; rw [List.getD_eq_getElem?_getD, List.getElem?_eq_getElem hi]; rfl
   have := does_ok (R := R) hf (by omega) w h [D.int (cell 0 (elem i l)).toInt, D.int (cell 1 (elem i l)).toInt, D.int (cell 2 (elem i l)).toInt] (fun b x bd r l y t => L n ((i + 1 : Nat) : Int) b x bd r l y t) _ _ _ _ _ (fun _ _ _ _ _ => rfl) (fun _ _ _ _ => rfl) (fun _ _ _ _ => rfl) (fun _ _ _ => rfl) (fun _ _ _ _ _ => rfl)
   refine this.trans ?_
   rw [hd]
   exact ih (i + 1) (m + 1) (w.op3 (elem i l)) (Ward.does_Inv h _ _ _) (by omega) (by omega) (by omega)
  · rw [lt_false (show ¬ (i : Int) < ofN l.length by unfold ofN; omega), cond_false, List.drop_eq_nil_of_le (by omega)]
   rfl
def Ids (rs : List Rep) : Prop := ∀ i < rs.length, (nthR rs i).id = (i : Nat)
theorem nthR_set_ne {rs : List Rep} {k i : Nat} (h : k ≠ i) (q : Rep) : nthR (rs.set k q) i = nthR rs i := by
 unfold nthR; rw [List.getD_eq_getElem?_getD, List.getD_eq_getElem?_getD, List.getElem?_set_ne h]
theorem Ids.set {rs : List Rep} (h : Ids rs) {k : Nat} {q : Rep} (hq : q.id = (k : Nat)) : Ids (rs.set k q) := by
 intro i hi
 rw [List.length_set] at hi
 by_cases e : k = i
 · subst e; rw [nthR_set hi, hq]
 · rw [nthR_set_ne e]; exact h i hi
theorem op_Ids {w : Ward} (h5 : w.rs.length = 5) (h : Ids w.rs) (kind node at_ : Int) : Ids (w.op kind node at_).rs := by
 have hk := nodeOf_lt node
 have hid := h (nodeOf node) (by omega)
 have ho : ∀ a b c, Ids (w.ordered a b c).rs := fun a b c => by unfold Ward.ordered; split <;> exact h
 unfold Ward.op
 simp only
 split
 · exact h.set (by rw [order_same]; exact hid)
 · split
  · exact h
  · split
   · split
    · show Ids (comesR _ _)
     unfold comesR
     split
     · refine h.set ?_
      rw [receive_same]
      have := h (toOf (elem (atOf w.way at_).toNat w.way)).toNat (by omega)
      rw [this]
     · exact h
    · exact h
   · split
    · split <;> exact h
    · split
     · exact h.set (by rw [adopt_same]; exact hid)
     · split
      · exact h.set rfl
      · split
       · exact ho _ _ _
       · split
        · exact ho _ _ _
        · split
         · split
          · exact ho _ _ _
          · exact h
         · exact h
theorem all3_Ids : ∀ (l : List (List D)) (w : Ward) (n : Nat), w.Inv n → Ids w.rs → Ids (w.all3 l).rs
 | [], _, _, _, h => h
 | o :: l, w, n, hi, h => all3_Ids l (w.op3 o) (n + 1) (Ward.does_Inv hi _ _ _) (op_Ids hi.five h _ _ _)
theorem begin_Ids (m : Nat) : Ids (Ward.begin m).rs := by
 intro i hi
 have h5 : i < 5 := by simpa [Ward.begin, reps] using hi
 show (nthR (reps 5) i).id = _
 have : i = 0 ∨ i = 1 ∨ i = 2 ∨ i = 3 ∨ i = 4 := by omega
 rcases this with rfl | rfl | rfl | rfl | rfl <;> rfl
theorem byte_wf {d : D} (h : WFD (FT.int IntKind.u8) d) : 0 ≤ d.toInt ∧ d.toInt < 256 := by
 cases h with
 | int k n h =>
  unfold Lit.wf at h
  simp [IntKind.min, IntKind.max, IntKind.signed, IntKind.bits] at h
  show 0 ≤ n ∧ n < 256
  omega
theorem WFDs.u8 {ds : List D} (h : WFDs [FT.int IntKind.u8] ds) : 0 ≤ (V.cell 0 ds).toInt ∧ (V.cell 0 ds).toInt < 256 := byte_wf (h.cell (j := 0) rfl)
theorem wrap_u8 {n : Int} (h0 : 0 ≤ n) (h1 : n < 256) : IntKind.i64.wrap n = n := wrap_of (by omega) (by omega)
def manyOf (n : Int) : Nat := 1 + (n.tmod 4).toNat
theorem manyOf_range {n : Int} (h0 : 0 ≤ n) : 1 ≤ manyOf n ∧ manyOf n ≤ 4 := by
 unfold manyOf
 rw [Int.tmod_eq_emod_of_nonneg h0]
 omega
theorem many_ok (fu : Nat) {n : Int} (h0 : 0 ≤ n) (h1 : n < 256) (k : Int → Option R) : F12 fu n k = k ((manyOf n : Nat) : Int) := by
 rw [F12_eq]; unfold Fb12
 rw [wrap_u8 h0 h1]
 unfold manyOf
 rw [Int.tmod_eq_emod_of_nonneg h0, wrap_of (by omega) (by omega)]
 congr 1; omega
def whoOf (n : Int) : Nat := (n.tmod 5).toNat
theorem who_ok {n : Int} (h0 : 0 ≤ n) (h1 : n < 256) : (IntKind.i64.wrap n).tmod 5 = ((whoOf n : Nat) : Int) ∧ whoOf n < 5 := by
 rw [wrap_u8 h0 h1]
 unfold whoOf
 rw [Int.tmod_eq_emod_of_nonneg h0]
 omega
structure Ran (w : Ward) (n : Nat) : Prop where
 inv : w.Inv n
 ids : Ids w.rs
theorem ran_of (m : Nat) (hm : m ≤ 4) (l : List (List D)) : Ran ((Ward.begin m).all3 l) l.length := by
 have := all3_Inv l (Ward.begin m) 0 (begin_Inv m hm)
 rw [Nat.zero_add] at this
 exact ⟨this, all3_Ids l (Ward.begin m) 0 (begin_Inv m hm) (begin_Ids m)⟩
end Go.Proofs.Ythlbahcggmbfaaa.V

namespace Go.Proofs.Ythlbahcggmbfaaa.V
variable {R : Type}
theorem strange_piece {fu n : Nat} (hf : 1001 ≤ fu) (hn : n ≤ 900) (rs : List Rep) (hr : AllOk rs n) (k : Nat) (hk : k < rs.length) (m : List D) (h : (nthR rs k).receive m = (nthR rs k, [])) (K : Bool → Option R) :
  F7_2047 fu k (cell 0 m).toInt (cell 1 m).toInt (cell 2 m).toInt (cell 3 m).toInt (cell 4 m).toInt (cell 5 m).toInt (cell 6 m).toBool (cell 7 m).toStr (cellsL rs) K = K true := by
 unfold F7_2047
 have hok := hr _ (nthR_mem hk)
 have hrow := hok.row
 have hm := hok.mem
 have hrec : ∀ (K2 : List (List D) → Int → Int → Bool → Int → List (List D) → Option R), F28 fu [D.int (cell 0 m).toInt, D.int (cell 1 m).toInt, D.int (cell 2 m).toInt, D.int (cell 3 m).toInt, D.int (cell 4 m).toInt, D.int (cell 5 m).toInt, D.bool (cell 6 m).toBool, D.str (cell 7 m).toStr] (nthR rs k).id (nthR rs k).ep (nthR rs k).mem (nthR rs k).join (nthR rs k).row (nthR rs k).live (nthR rs k).commit (nthR rs k).told (nthR rs k).acked (nthR rs k).base (nthR rs k).heard (nthR rs k).need K2 = K2 (nthR rs k).row (nthR rs k).commit (nthR rs k).acked (nthR rs k).heard (nthR rs k).need [] := fun K2 => by
  refine (receive_ok hf hok (by omega) (msgD m) K2).trans ?_
  rw [receive_msgD, h]
 simp only [letR, letD, elem_nth hk, c0, c1, c2, c3, c4, c5, c6, c7, c8, c9, c10, c11, row_ok (R := R) (nthR rs k) (show (nthR rs k).row.length ≤ 1000000 by omega), commit_ok, nth_same hk, complete_ok (R := R) (r := nthR rs k) hf (show (nthR rs k).mem.length ≤ 1000 by omega), hrec, awake_ok (R := R) hf]
 rw [eq_true (show ofN ([] : List (List D)).length = 0 from rfl), cond_true]
 simp only [decide_true, cond_true, BEq.rfl]
theorem strange_1023 {fu n : Nat} (hf : 1001 ≤ fu) (hn : n ≤ 900) (rs : List Rep) (hr : AllOk rs n) (hid : Ids rs) (k : Nat) (hk : k < rs.length) (m : List D) (b : Bool)
  (hb : b = (decide ((cell 0 m).toInt = 0) && decide ((cell 1 m).toInt = (nthR rs k).before) || decide ((cell 0 m).toInt = 1) && decide ((cell 1 m).toInt = (nthR rs k).next))) (K : Bool → Option R) :
  F7_1023 fu (k : Nat) k b (cell 0 m).toInt (cell 1 m).toInt (cell 2 m).toInt (cell 3 m).toInt (cell 4 m).toInt (cell 5 m).toInt (cell 6 m).toBool (cell 7 m).toStr (cellsL rs) K = K true := by
 unfold F7_1023
 have hi := hid k hk
 have piece := fun (h : (nthR rs k).receive m = (nthR rs k, [])) => strange_piece (R := R) hf hn rs hr k hk m h K
 have none_ : (nthR rs k).mine m = false → (nthR rs k).receive m = (nthR rs k, []) := fun h => mine_false h
 simp only [letR, letD, elem_nth hk, c0, c1, c2, c3, c4, c5, c6, c7, c8, c9, c10, c11, live_ok, epoch_ok, nth_same hk]
 cases hl : (nthR rs k).live with
 | false => rw [cond_false]; exact piece (none_ (by unfold Rep.mine; rw [hl]; rfl))
 | true =>
  rw [cond_true]
  by_cases h2 : (cell 2 m).toInt = (k : Nat)
  · rw [eq_true h2, cond_true]
   by_cases h3 : (cell 3 m).toInt = (nthR rs k).ep
   · rw [eq_true h3, cond_true]
    cases hbb : b with
    | true =>
     rw [cond_true]
     by_cases h1 : 0 ≤ (cell 1 m).toInt
     · rw [le_true h1, cond_true, awake_ok hf]
     · rw [le_false h1, cond_false]
      exact piece (none_ (by unfold Rep.mine; rw [lt_true (show (cell 1 m).toInt < 0 by omega)]; simp))
    | false =>
     rw [cond_false]
     refine piece ?_
     rw [hbb] at hb
     have hb := hb.symm
     rw [Bool.or_eq_false_iff, Bool.and_eq_false_iff, Bool.and_eq_false_iff] at hb
     unfold Rep.receive
     split
     · rw [if_neg (fun q => by rcases hb.1 with q2 | q2 <;> simp [q] at q2), if_neg (fun q => by rcases hb.2 with q2 | q2 <;> simp [q] at q2)]
     · rfl
   · rw [eq_false h3, cond_false]
    exact piece (none_ (by unfold Rep.mine; rw [eq_false h3]; simp))
  · rw [eq_false h2, cond_false]
   exact piece (none_ (by unfold Rep.mine; rw [hi, eq_false h2]; simp))
theorem strange7 (fu : Nat) (hf : 1001 ≤ fu) (n : Int) (h0 : 0 ≤ n) (h1 : n < 256) (l : List (List D)) (who : Int) (w0 : 0 ≤ who) (w1 : who < 256) (m : List D) (K : Bool → Option R) : F7 fu n l who m K = K true := by
 rw [F7_eq]
 unfold Fb7
 by_cases hl : 100 < l.length
 · rw [lt_true (show (100 : Int) < ofN l.length by unfold ofN; omega), cond_true, awake_ok hf]
 · rw [lt_false (show ¬ (100 : Int) < ofN l.length by unfold ofN; omega), cond_false, many_ok fu h0 h1]
  obtain ⟨m1, m4⟩ := manyOf_range h0
  rw [begin_ok hf (manyOf n) m1 m4]
  obtain ⟨e1, e2⟩ := who_ok w0 w1
  simp only [e1, Int.toNat_natCast]
  generalize whoOf who = k at e2
  generalize manyOf n = mm at m1 m4
  refine (run_ok (R := R) hf l (by omega) _ (F7_250 fu l (ofN l.length) · · · · · · · · · _) (fun _ _ _ _ _ _ _ _ _ => rfl) fu 0 0 (Ward.begin mm) (begin_Inv mm m4) (by omega) (by omega) (by omega)).trans ?_
  rw [List.drop_zero]
  obtain ⟨hi, hid⟩ := ran_of mm m4 l
  generalize (Ward.begin mm).all3 l = w at hi hid
  have h5 := hi.five
  have hk : k < w.rs.length := by omega
  have hok := hi.ok _ (nthR_mem hk)
  have hm := hok.mem
  have hrow := hok.row
  rw [within_of (by rw [cellsL_len]; exact hk), cond_true]
  have hbf : ∀ K2, F25 fu [D.int (nthR w.rs k).ep, D.row (nthR w.rs k).mem, D.bool (nthR w.rs k).join] (k : Nat) K2 = K2 (nthR w.rs k).before := fun K2 => by
   have := before_ok (R := R) (r := nthR w.rs k) hf (by omega) K2
   rw [hid k hk] at this; exact this
  have hnx : ∀ K2, F26 fu [D.int (nthR w.rs k).ep, D.row (nthR w.rs k).mem, D.bool (nthR w.rs k).join] (k : Nat) K2 = K2 (nthR w.rs k).next := fun K2 => by
   have := next_ok (R := R) (r := nthR w.rs k) hf (by omega) K2
   rw [hid k hk] at this; exact this
  simp only [letR, letD, elem_nth hk, c0, c1, c2, c3, c4, c5, c6, c7, c8, c9, c10, c11, keep_ok (nthR w.rs k) hm (show (nthR w.rs k).row.length ≤ 1000000 by omega), nth_same hk]
  have d0 : ∀ a b c d, (cell 0 [D.int a, D.row b, D.bool c, D.row d]).toInt = a := fun _ _ _ _ => rfl
  have d1 : ∀ a b c d, (cell 1 [D.int a, D.row b, D.bool c, D.row d]).toRows = b := fun _ _ _ _ => rfl
  have d2 : ∀ a b c d, (cell 2 [D.int a, D.row b, D.bool c, D.row d]).toBool = c := fun _ _ _ _ => rfl
  simp only [d0, d1, d2, hbf, hnx]
  have fin := fun b hb => strange_1023 (R := R) hf (by omega) w.rs hi.ok hid k hk m b hb (fun o => K o)
  by_cases q0 : (cell 0 m).toInt = 0
  · have q1 : ¬ (cell 0 m).toInt = 1 := by omega
   rw [eq_true q0, cond_true]
   by_cases qb : (cell 1 m).toInt = (nthR w.rs k).before
   · rw [eq_true qb, cond_true]
    exact fin true (by rw [eq_true q0, eq_true qb]; rfl)
   · rw [eq_false qb, cond_false, eq_false q1, cond_false]
    exact fin false (by rw [eq_true q0, eq_false qb, eq_false q1]; rfl)
  · rw [eq_false q0, cond_false]
   by_cases q1 : (cell 0 m).toInt = 1
   · rw [eq_true q1, cond_true]
    exact fin _ (by rw [eq_false q0, eq_true q1]; rfl)
   · rw [eq_false q1, cond_false]
    exact fin false (by rw [eq_false q0, eq_false q1]; rfl)
end Go.Proofs.Ythlbahcggmbfaaa.V

namespace Go.Proofs.Ythlbahcggmbfaaa
theorem strange_holds : Rows.ChainStrangeSaid := strange_join (V.law7 1001 fun _ _ _ _ h1 _ h3 _ => V.strange7 1001 (Nat.le_refl _) _ (h1.u8).1 (h1.u8).2 _ _ (h3.u8).1 (h3.u8).2 _ _)
end Go.Proofs.Ythlbahcggmbfaaa

