import Derived.Test.YtlakjegifgonbaaDoorBase5
import Derived.Test.YtlakjegifgonbaaDoorRows
import Derived.Test.YtlakjegifgonbaaDoorChecked
import Derived.ProofKit
import Derived.KernelRfl
import Derived.LaidLaws
set_option linter.unusedVariables false
set_option linter.unusedSimpArgs false

/- Words that all plain proofs use. -/
namespace Go.Proofs.YtlakjegifgonbaaDoor.V

theorem wrap_of {x : Int} (h0 : -9223372036854775808 ≤ x) (h1 : x ≤ 9223372036854775807) : IntKind.i64.wrap x = x := by
  rw [IntKind.wrap_i64]; omega

theorem wrap_succ {i : Nat} (h : i ≤ 9223372036854775806) : IntKind.i64.wrap ((i : Int) + 1) = ((i + 1 : Nat) : Int) := by rw [wrap_of (by omega) (by omega)]; rfl

theorem fits_of {n b : Nat} (hn : n ≤ 1000000) (hb : b ≤ 1000) : fits n b = true := by
  unfold fits maxBytes
  have : n * b ≤ 1000000 * 1000 := Nat.mul_le_mul hn hb
  exact decide_eq_true ⟨by omega, by omega⟩

theorem within_of {j n : Nat} (h : j < n) : within (j : Int) n = true := by
  unfold within; exact decide_eq_true ⟨by omega, by omega⟩

theorem within_int {j : Int} {n : Nat} (h0 : 0 ≤ j) (h : j < n) : within j n = true := by
  unfold within; exact decide_eq_true ⟨h0, by omega⟩

theorem lt_true {a b : Int} (h : a < b) : decide (a < b) = true := decide_eq_true h
theorem lt_false {a b : Int} (h : ¬ a < b) : decide (a < b) = false := decide_eq_false h
theorem le_true {a b : Int} (h : a ≤ b) : decide (a ≤ b) = true := decide_eq_true h
theorem le_false {a b : Int} (h : ¬ a ≤ b) : decide (a ≤ b) = false := decide_eq_false h
theorem eq_true {a b : Int} (h : a = b) : decide (a = b) = true := decide_eq_true h
theorem eq_false {a b : Int} (h : ¬ a = b) : decide (a = b) = false := decide_eq_false h

theorem strEq_refl (x : ByteArray) : strEq x x = true := by simp [strEq]

theorem elem_mem {i : Nat} {l : List (List D)} (h : i < l.length) : elem i l ∈ l := by
  unfold elem
  rw [List.getD_eq_getElem?_getD, List.getElem?_eq_getElem h]
  exact List.getElem_mem h

/-- Sizes of data as it comes. -/
theorem WFD.rows_len {bytes : Nat} {fts : List FT} {d : D} (h : WFD (.row bytes fts) d) : d.toRows.length * bytes ≤ reachBytes := by
  cases h with
  | nil => simp [D.toRows]
  | row _ _ rows hb hl hr => simp only [D.toRows]; first | exact hb | (simpa using hb)

theorem WFD.str_len {d : D} (h : WFD .str d) : d.toStr.size ≤ reachBytes := by
  cases h with
  | str s h => exact h

theorem WFD.rows {bytes : Nat} {fts : List FT} {d : D} (h : WFD (.row bytes fts) d) : ∀ r ∈ d.toRows, WFDs fts r := by
  cases h with
  | nil => intro r hr; cases hr
  | row _ _ rows hb hl hr =>
    intro r hm
    refine ⟨hl r hm, fun j ft d h1 h2 => hr r hm j ft d h1 h2⟩

theorem WFDs.cell {fts : List FT} {ds : List D} (h : WFDs fts ds) {j : Nat} {ft : FT} (hj : fts[j]? = some ft) : WFD ft (V.cell j ds) := by
  have hlt : j < ds.length := by rw [h.len]; exact (List.getElem?_eq_some_iff.1 hj).1
  have hd := List.getElem?_eq_getElem hlt
  unfold V.cell
  rw [List.getD_eq_getElem?_getD, hd]
  exact h.at_ j ft _ hj hd

theorem reach_lt : reachBytes < 140737488355328 := by decide

end Go.Proofs.YtlakjegifgonbaaDoor.V

/- Printed by ugen: slices.Clone[[]int,int] -/
namespace Go.Proofs.YtlakjegifgonbaaDoor.V
set_option maxRecDepth 100000
set_option maxHeartbeats 4000000

abbrev ft0 : List FT := [FT.int IntKind.i64]

noncomputable def code39 : Code := match Tryd.f39.body with | some c => c | none => .skip

theorem s39 (fu : Nat) : Tells Tryd.prog 39 (toldClone ft0 8) :=
  clone_tells (F := (tbX fu)) (k := 300) (tbX_sound fu) (fun R K => by kernel_rfl) (fun R K es => by kernel_rfl)

noncomputable def tb39 (fu : Nat) : FuncId → Option (Bool × ToldF) := fun f => match Nat.beq f 39 with
  | true => some (false, ghG [.fzP 0 [] ft0] (toldClone ft0 8))
  | false => (tbX fu) f
theorem tb39_sound (fu : Nat) : SoundF' Tryd.prog (tb39 fu) := by
  intro f own told h
  unfold tb39 at h
  split at h
  · rename_i hb
    cases h
    have := Nat.eq_of_beq_eq_true hb
    subst this
    exact ghG_sound (s39 fu)
  · exact (tbX_sound fu) f own told h

end Go.Proofs.YtlakjegifgonbaaDoor.V

/- Printed by ugen: daisychain/master.node -/
namespace Go.Proofs.YtlakjegifgonbaaDoor.V
set_option maxRecDepth 100000
set_option maxHeartbeats 4000000


noncomputable def code41 : Code := match Tryd.f41.body with | some c => c | none => .skip

noncomputable def Fb41 {R : Type} (fu : Nat) (n_ : Int) (k0 : Bool → Option R) : Option R :=
  bif decide (0 ≤ n_) then (k0 (decide (n_ < 100))) else (k0 false)

noncomputable def F41 {R : Type} (fu : Nat) (n_ : Int) (k0 : Bool → Option R) : Option R := shut (@Fb41 R) fu n_ k0
theorem F41_eq {R : Type} (fu : Nat) (n_ : Int) (k0 : Bool → Option R) : F41 fu n_ k0 = Fb41 fu n_ k0 := by unfold F41; rw [shut_eq]

noncomputable def pc41 (fu : Nat) : Nat → Option ToldP := fun _ => none
noncomputable def t41 (fu : Nat) : ToldF := fun _ args s K => match args, s with
  | [.int .i64 n_], [] => F41 fu n_ (fun o_ => K (.bool o_) [])
  | _, _ => none

theorem e41 (R : Type) (K : UV → USt → Option R) (fu : Nat) (n_ : Int) :
    F41 fu n_ (fun o_ => K (.bool o_) []) = ufun Tryd.prog ⟨(tb39 fu), pc41 fu⟩ 300 41 [.int .i64 n_] [] (funK 0 [.gc] K) := (F41_eq fu _ _).trans (by kernel_rfl)

theorem s41 (fu : Nat) : Tells Tryd.prog 41 (t41 fu) := by
  refine ufun_sound (T := ⟨(tb39 fu), pc41 fu⟩) (m := 0) (gout := [.gc]) (k := 300) (tb39_sound fu) (fun fn body hf hb => ?_) (fun R args s K r h => ?_) (fun R args s K r h => ?_)
  · have hc : body = code41 := by
      have h1 : Tryd.prog.funcs[41]? = some Tryd.f41 := rfl
      rw [h1] at hf; cases hf
      have h2 : Tryd.f41.body = some code41 := rfl
      rw [h2] at hb; cases hb; rfl
    subst hc
    exact SoundPc.none _ _ _
  · unfold t41 at h; split at h
    · rfl
    · cases h
  · unfold t41 at h; split at h
    case h_2 => cases h
    exact (e41 R K fu _).symm.trans h

noncomputable def tb41 (fu : Nat) : FuncId → Option (Bool × ToldF) := fun f => match Nat.beq f 41 with
  | true => some (false, ghG [] (t41 fu))
  | false => (tb39 fu) f
theorem tb41_sound (fu : Nat) : SoundF' Tryd.prog (tb41 fu) := by
  intro f own told h
  unfold tb41 at h
  split at h
  · rename_i hb
    cases h
    have := Nat.eq_of_beq_eq_true hb
    subst this
    exact ghG_sound (s41 fu)
  · exact (tb39_sound fu) f own told h

end Go.Proofs.YtlakjegifgonbaaDoor.V

/- Printed by ugen: slices.Index[[]int,int] -/
namespace Go.Proofs.YtlakjegifgonbaaDoor.V
set_option maxRecDepth 100000
set_option maxHeartbeats 4000000


noncomputable def code31 : Code := match Tryd.f31.body with | some c => c | none => .skip
theorem a31_26 : codeAt code31 26 = some (.loop (loopBody (codeAt code31 26))) := by kernel_rfl
noncomputable def F31_26 {R : Type} (fu : Nat) (s : List (List D)) (v : Int) (x : Int) : Nat → Int → (Int → Option R) → (Option R) → Option R
  | 0, _, _, _ => none
  | n + 1, x1, k0, k1 => bif decide (x1 < x) then bif within x1 s.length then bif decide (v = (cell 0 (elem x1.toNat s)).toInt) then (k0 x1) else (F31_26 fu s v x n (IntKind.i64.wrap (x1 + 1)) k0 k1) else none else (k1)

noncomputable def t31_26 (fu n : Nat) : ToldP := fun _ e s K => match e, s with
  | [.fz zq0 s false, .int .i64 v, .int .i64 x, .int .i64 x1], [] => (match FT.sames zq0 ft0 with | true => F31_26 fu s v x n x1 (fun o_ => K .ret (unpackM (bitsM 5 0x10) [.int .i64 o_]) []) (K (.exit 0) (unpackM (bitsM 5 0x0) []) []) | false => none)
  | _, _ => none

noncomputable def pc31_26 (fu : Nat) : Nat → Option ToldP := fun _ => none
theorem e31_26 (fu n : Nat) (R : Type) (K : VExit → UEnv → USt → Option R) (s : List (List D)) (v : Int) (x : Int) (x1 : Int) :
    F31_26 fu s v x (n + 1) x1 (fun o_ => K .ret (unpackM (bitsM 5 0x10) [.int .i64 o_]) []) (K (.exit 0) (unpackM (bitsM 5 0x0) []) []) = uexec Tryd.prog (tb41 fu) 300 (pc31_26 fu) 52 (loopBody (codeAt code31 26)) (unpackM (bitsM 9 0x183) [.fz ft0 s false, .int .i64 v, .int .i64 x, .int .i64 x1]) [] (loopK 0 [.live (bitsM 9 0x183), .fzP 0 [] ft0, .gc] [.live (bitsM 5 0x10), .gc] (pkP (bitsM 9 0x183) (t31_26 fu n)) K) := by kernel_rfl

theorem p31_26 (fu : Nat) : SoundPc Tryd.prog 0 code31 (pc31_26 fu) := SoundPc.none _ _ _
theorem s31_26 (fu : Nat) : ∀ n, SoundP Tryd.prog 0 (.loop (loopBody (codeAt code31 26))) (pkP (bitsM 9 0x183) (t31_26 fu n)) := by
  refine loopP_sound (gin := [.live (bitsM 9 0x183), .fzP 0 [] ft0, .gc]) (gout := [.live (bitsM 5 0x10), .gc]) (k := 300) (tb41_sound fu) (p31_26 fu) (by decide) a31_26 (fun R e s K => ?_) (fun n R e s K r h => ?_)
  · unfold t31_26; repeat' split
    all_goals rfl
  · unfold t31_26 at h; split at h
    case h_2 => cases h
    split at h
    case h_2 => cases h
    rename_i hq
    have hq := FT.sames_eq _ _ hq
    subst hq
    exact (e31_26 fu n R K _ _ _ _).symm.trans h


noncomputable def Fb31 {R : Type} (fu : Nat) (s : List (List D)) (v : Int) (k0 : Int → Option R) : Option R :=
  F31_26 fu s v (ofN s.length) fu 0 (fun o_0 => (k0 o_0)) ((k0 (-1)))

noncomputable def F31 {R : Type} (fu : Nat) (s : List (List D)) (v : Int) (k0 : Int → Option R) : Option R := shut (@Fb31 R) fu s v k0
theorem F31_eq {R : Type} (fu : Nat) (s : List (List D)) (v : Int) (k0 : Int → Option R) : F31 fu s v k0 = Fb31 fu s v k0 := by unfold F31; rw [shut_eq]

noncomputable def pc31 (fu : Nat) : Nat → Option ToldP := fun p => match Nat.beq p 26 with | true => some (ghP 0 [.live (bitsM 9 0x183), .fzP 0 [] ft0, .gc] (pkP (bitsM 9 0x183) (t31_26 fu fu))) | false => none
noncomputable def t31 (fu : Nat) : ToldF := fun _ args s K => match args, s with
  | [.fz zq0 s false, .int .i64 v], [] => (match FT.sames zq0 ft0 with | true => F31 fu s v (fun o_ => K (.int .i64 o_) []) | false => none)
  | _, _ => none

theorem e31 (R : Type) (K : UV → USt → Option R) (fu : Nat) (s : List (List D)) (v : Int) :
    F31 fu s v (fun o_ => K (.int .i64 o_) []) = ufun Tryd.prog ⟨(tb41 fu), pc31 fu⟩ 300 31 [.fz ft0 s false, .int .i64 v] [] (funK 0 [.gc] K) := (F31_eq fu _ _ _).trans (by kernel_rfl)

theorem s31 (fu : Nat) : Tells Tryd.prog 31 (t31 fu) := by
  refine ufun_sound (T := ⟨(tb41 fu), pc31 fu⟩) (m := 0) (gout := [.gc]) (k := 300) (tb41_sound fu) (fun fn body hf hb => ?_) (fun R args s K r h => ?_) (fun R args s K r h => ?_)
  · have hc : body = code31 := by
      have h1 : Tryd.prog.funcs[31]? = some Tryd.f31 := rfl
      rw [h1] at hf; cases hf
      have h2 : Tryd.f31.body = some code31 := rfl
      rw [h2] at hb; cases hb; rfl
    subst hc
    exact fun p told h b hb => by
      replace h : pc31 fu p = some told := h
      unfold pc31 at h
      split at h
      · rename_i hp
        cases h
        have := Nat.eq_of_beq_eq_true hp
        subst this
        rw [a31_26] at hb
        cases hb
        exact ghP_sound (s31_26 fu _)
      ·
        cases h

  · unfold t31 at h; split at h
    · rfl
    · cases h
  · unfold t31 at h; split at h
    case h_2 => cases h
    split at h
    case h_2 => cases h
    rename_i hq
    have hq := FT.sames_eq _ _ hq
    subst hq
    exact (e31 R K fu _ _).symm.trans h

noncomputable def tb31 (fu : Nat) : FuncId → Option (Bool × ToldF) := fun f => match Nat.beq f 31 with
  | true => some (false, ghG [.fzP 0 [] ft0] (t31 fu))
  | false => (tb41 fu) f
theorem tb31_sound (fu : Nat) : SoundF' Tryd.prog (tb31 fu) := by
  intro f own told h
  unfold tb31 at h
  split at h
  · rename_i hb
    cases h
    have := Nat.eq_of_beq_eq_true hb
    subst this
    exact ghG_sound (s31 fu)
  · exact (tb41_sound fu) f own told h

end Go.Proofs.YtlakjegifgonbaaDoor.V

/- Printed by ugen: slices.Contains[[]int,int] -/
namespace Go.Proofs.YtlakjegifgonbaaDoor.V
set_option maxRecDepth 100000
set_option maxHeartbeats 4000000


noncomputable def code48 : Code := match Tryd.f48.body with | some c => c | none => .skip

noncomputable def Fb48 {R : Type} (fu : Nat) (s : List (List D)) (v : Int) (k0 : Bool → Option R) : Option R :=
  F31 fu s v fun o_0 => (k0 (decide (0 ≤ o_0)))

noncomputable def F48 {R : Type} (fu : Nat) (s : List (List D)) (v : Int) (k0 : Bool → Option R) : Option R := shut (@Fb48 R) fu s v k0
theorem F48_eq {R : Type} (fu : Nat) (s : List (List D)) (v : Int) (k0 : Bool → Option R) : F48 fu s v k0 = Fb48 fu s v k0 := by unfold F48; rw [shut_eq]

noncomputable def pc48 (fu : Nat) : Nat → Option ToldP := fun _ => none
noncomputable def t48 (fu : Nat) : ToldF := fun _ args s K => match args, s with
  | [.fz zq0 s false, .int .i64 v], [] => (match FT.sames zq0 ft0 with | true => F48 fu s v (fun o_ => K (.bool o_) []) | false => none)
  | _, _ => none

theorem e48 (R : Type) (K : UV → USt → Option R) (fu : Nat) (s : List (List D)) (v : Int) :
    F48 fu s v (fun o_ => K (.bool o_) []) = ufun Tryd.prog ⟨(tb31 fu), pc48 fu⟩ 300 48 [.fz ft0 s false, .int .i64 v] [] (funK 0 [.gc] K) := (F48_eq fu _ _ _).trans (by kernel_rfl)

theorem s48 (fu : Nat) : Tells Tryd.prog 48 (t48 fu) := by
  refine ufun_sound (T := ⟨(tb31 fu), pc48 fu⟩) (m := 0) (gout := [.gc]) (k := 300) (tb31_sound fu) (fun fn body hf hb => ?_) (fun R args s K r h => ?_) (fun R args s K r h => ?_)
  · have hc : body = code48 := by
      have h1 : Tryd.prog.funcs[48]? = some Tryd.f48 := rfl
      rw [h1] at hf; cases hf
      have h2 : Tryd.f48.body = some code48 := rfl
      rw [h2] at hb; cases hb; rfl
    subst hc
    exact SoundPc.none _ _ _
  · unfold t48 at h; split at h
    · rfl
    · cases h
  · unfold t48 at h; split at h
    case h_2 => cases h
    split at h
    case h_2 => cases h
    rename_i hq
    have hq := FT.sames_eq _ _ hq
    subst hq
    exact (e48 R K fu _ _).symm.trans h

noncomputable def tb48 (fu : Nat) : FuncId → Option (Bool × ToldF) := fun f => match Nat.beq f 48 with
  | true => some (false, ghG [.fzP 0 [] ft0] (t48 fu))
  | false => (tb31 fu) f
theorem tb48_sound (fu : Nat) : SoundF' Tryd.prog (tb48 fu) := by
  intro f own told h
  unfold tb48 at h
  split at h
  · rename_i hb
    cases h
    have := Nat.eq_of_beq_eq_true hb
    subst this
    exact ghG_sound (s48 fu)
  · exact (tb31_sound fu) f own told h

end Go.Proofs.YtlakjegifgonbaaDoor.V

/- Printed by ugen: daisychain/daisychainref13.At -/
namespace Go.Proofs.YtlakjegifgonbaaDoor.V
set_option maxRecDepth 100000
set_option maxHeartbeats 4000000


noncomputable def code21 : Code := match Tryd.f21.body with | some c => c | none => .skip
theorem a21_26 : codeAt code21 26 = some (.loop (loopBody (codeAt code21 26))) := by kernel_rfl
noncomputable def F21_26 {R : Type} (fu : Nat) (l : List (List D)) (node : Int) : Nat → Int → (Int → Option R) → (Option R) → Option R
  | 0, _, _, _ => none
  | n + 1, i, k0, k1 => bif decide (i < ofN l.length) then bif within i l.length then bif decide ((cell 0 (elem i.toNat l)).toInt = node) then (k0 i) else (F21_26 fu l node n (IntKind.i64.wrap (i + 1)) k0 k1) else none else (k1)

noncomputable def t21_26 (fu n : Nat) : ToldP := fun _ e s K => match e, s with
  | [.fz zq0 l false, .int .i64 node, .int .i64 i], [] => (match FT.sames zq0 ft0 with | true => F21_26 fu l node n i (fun o_ => K .ret (unpackM (bitsM 5 0x10) [.int .i64 o_]) []) (K (.exit 0) (unpackM (bitsM 5 0x0) []) []) | false => none)
  | _, _ => none

noncomputable def pc21_26 (fu : Nat) : Nat → Option ToldP := fun _ => none
theorem e21_26 (fu n : Nat) (R : Type) (K : VExit → UEnv → USt → Option R) (l : List (List D)) (node : Int) (i : Int) :
    F21_26 fu l node (n + 1) i (fun o_ => K .ret (unpackM (bitsM 5 0x10) [.int .i64 o_]) []) (K (.exit 0) (unpackM (bitsM 5 0x0) []) []) = uexec Tryd.prog (tb48 fu) 300 (pc21_26 fu) 52 (loopBody (codeAt code21 26)) (unpackM (bitsM 6 0x23) [.fz ft0 l false, .int .i64 node, .int .i64 i]) [] (loopK 0 [.live (bitsM 6 0x23), .fzP 0 [] ft0, .gc] [.live (bitsM 5 0x10), .gc] (pkP (bitsM 6 0x23) (t21_26 fu n)) K) := by kernel_rfl

theorem p21_26 (fu : Nat) : SoundPc Tryd.prog 0 code21 (pc21_26 fu) := SoundPc.none _ _ _
theorem s21_26 (fu : Nat) : ∀ n, SoundP Tryd.prog 0 (.loop (loopBody (codeAt code21 26))) (pkP (bitsM 6 0x23) (t21_26 fu n)) := by
  refine loopP_sound (gin := [.live (bitsM 6 0x23), .fzP 0 [] ft0, .gc]) (gout := [.live (bitsM 5 0x10), .gc]) (k := 300) (tb48_sound fu) (p21_26 fu) (by decide) a21_26 (fun R e s K => ?_) (fun n R e s K r h => ?_)
  · unfold t21_26; repeat' split
    all_goals rfl
  · unfold t21_26 at h; split at h
    case h_2 => cases h
    split at h
    case h_2 => cases h
    rename_i hq
    have hq := FT.sames_eq _ _ hq
    subst hq
    exact (e21_26 fu n R K _ _ _).symm.trans h


noncomputable def Fb21 {R : Type} (fu : Nat) (l : List (List D)) (node : Int) (k0 : Int → Option R) : Option R :=
  F21_26 fu l node fu 0 (fun o_0 => (k0 o_0)) ((k0 (-1)))

noncomputable def F21 {R : Type} (fu : Nat) (l : List (List D)) (node : Int) (k0 : Int → Option R) : Option R := shut (@Fb21 R) fu l node k0
theorem F21_eq {R : Type} (fu : Nat) (l : List (List D)) (node : Int) (k0 : Int → Option R) : F21 fu l node k0 = Fb21 fu l node k0 := by unfold F21; rw [shut_eq]

noncomputable def pc21 (fu : Nat) : Nat → Option ToldP := fun p => match Nat.beq p 26 with | true => some (ghP 0 [.live (bitsM 6 0x23), .fzP 0 [] ft0, .gc] (pkP (bitsM 6 0x23) (t21_26 fu fu))) | false => none
noncomputable def t21 (fu : Nat) : ToldF := fun _ args s K => match args, s with
  | [.fz zq0 l false, .int .i64 node], [] => (match FT.sames zq0 ft0 with | true => F21 fu l node (fun o_ => K (.int .i64 o_) []) | false => none)
  | _, _ => none

theorem e21 (R : Type) (K : UV → USt → Option R) (fu : Nat) (l : List (List D)) (node : Int) :
    F21 fu l node (fun o_ => K (.int .i64 o_) []) = ufun Tryd.prog ⟨(tb48 fu), pc21 fu⟩ 300 21 [.fz ft0 l false, .int .i64 node] [] (funK 0 [.gc] K) := (F21_eq fu _ _ _).trans (by kernel_rfl)

theorem s21 (fu : Nat) : Tells Tryd.prog 21 (t21 fu) := by
  refine ufun_sound (T := ⟨(tb48 fu), pc21 fu⟩) (m := 0) (gout := [.gc]) (k := 300) (tb48_sound fu) (fun fn body hf hb => ?_) (fun R args s K r h => ?_) (fun R args s K r h => ?_)
  · have hc : body = code21 := by
      have h1 : Tryd.prog.funcs[21]? = some Tryd.f21 := rfl
      rw [h1] at hf; cases hf
      have h2 : Tryd.f21.body = some code21 := rfl
      rw [h2] at hb; cases hb; rfl
    subst hc
    exact fun p told h b hb => by
      replace h : pc21 fu p = some told := h
      unfold pc21 at h
      split at h
      · rename_i hp
        cases h
        have := Nat.eq_of_beq_eq_true hp
        subst this
        rw [a21_26] at hb
        cases hb
        exact ghP_sound (s21_26 fu _)
      ·
        cases h

  · unfold t21 at h; split at h
    · rfl
    · cases h
  · unfold t21 at h; split at h
    case h_2 => cases h
    split at h
    case h_2 => cases h
    rename_i hq
    have hq := FT.sames_eq _ _ hq
    subst hq
    exact (e21 R K fu _ _).symm.trans h

noncomputable def tb21 (fu : Nat) : FuncId → Option (Bool × ToldF) := fun f => match Nat.beq f 21 with
  | true => some (false, ghG [.fzP 0 [] ft0] (t21 fu))
  | false => (tb48 fu) f
theorem tb21_sound (fu : Nat) : SoundF' Tryd.prog (tb21 fu) := by
  intro f own told h
  unfold tb21 at h
  split at h
  · rename_i hb
    cases h
    have := Nat.eq_of_beq_eq_true hb
    subst this
    exact ghG_sound (s21 fu)
  · exact (tb48_sound fu) f own told h

end Go.Proofs.YtlakjegifgonbaaDoor.V

/- Printed by ugen: daisychain/daisychainlaw13.Of -/
namespace Go.Proofs.YtlakjegifgonbaaDoor.V
set_option maxRecDepth 100000
set_option maxHeartbeats 4000000

abbrev ft1 : List FT := [FT.int IntKind.i64, FT.int IntKind.i64, FT.int IntKind.i64, FT.int IntKind.i64, FT.row 8 [FT.int IntKind.i64]]

noncomputable def code13 : Code := match Tryd.f13.body with | some c => c | none => .skip

noncomputable def Fb13 {R : Type} (fu : Nat) (o_ : List D) (k0 : (List D) → Option R) : Option R :=
  (k0 o_)

noncomputable def F13 {R : Type} (fu : Nat) (o_ : List D) (k0 : (List D) → Option R) : Option R := shut (@Fb13 R) fu o_ k0
theorem F13_eq {R : Type} (fu : Nat) (o_ : List D) (k0 : (List D) → Option R) : F13 fu o_ k0 = Fb13 fu o_ k0 := by unfold F13; rw [shut_eq]

noncomputable def pc13 (fu : Nat) : Nat → Option ToldP := fun _ => none
noncomputable def t13 (fu : Nat) : ToldF := fun _ args s K => match args, s with
  | [.agg [.int .i64 q, .int .i64 q1, .int .i64 q2, .int .i64 q3, .fz zq0 q4 false]], [] => (match FT.sames zq0 ft0 with | true => F13 fu [D.int q, D.int q1, D.int q2, D.int q3, D.row q4] (fun o_ => K (.agg (ofDs 0 ft1 o_)) []) | false => none)
  | _, _ => none

theorem e13 (R : Type) (K : UV → USt → Option R) (fu : Nat) (q : Int) (q1 : Int) (q2 : Int) (q3 : Int) (q4 : List (List D)) :
    F13 fu [D.int q, D.int q1, D.int q2, D.int q3, D.row q4] (fun o_ => K (.agg (ofDs 0 ft1 o_)) []) = ufun Tryd.prog ⟨(tb21 fu), pc13 fu⟩ 300 13 [.agg [.int .i64 q, .int .i64 q1, .int .i64 q2, .int .i64 q3, .fz ft0 q4 false]] [] (funK 0 [.fzP 0 [4] ft0, .gc] K) := (F13_eq fu _ _).trans (by kernel_rfl)

theorem s13 (fu : Nat) : Tells Tryd.prog 13 (t13 fu) := by
  refine ufun_sound (T := ⟨(tb21 fu), pc13 fu⟩) (m := 0) (gout := [.fzP 0 [4] ft0, .gc]) (k := 300) (tb21_sound fu) (fun fn body hf hb => ?_) (fun R args s K r h => ?_) (fun R args s K r h => ?_)
  · have hc : body = code13 := by
      have h1 : Tryd.prog.funcs[13]? = some Tryd.f13 := rfl
      rw [h1] at hf; cases hf
      have h2 : Tryd.f13.body = some code13 := rfl
      rw [h2] at hb; cases hb; rfl
    subst hc
    exact SoundPc.none _ _ _
  · unfold t13 at h; split at h
    · rfl
    · cases h
  · unfold t13 at h; split at h
    case h_2 => cases h
    split at h
    case h_2 => cases h
    rename_i hq
    have hq := FT.sames_eq _ _ hq
    subst hq
    exact (e13 R K fu _ _ _ _ _).symm.trans h

noncomputable def tb13 (fu : Nat) : FuncId → Option (Bool × ToldF) := fun f => match Nat.beq f 13 with
  | true => some (false, ghG [.fzP 0 [4] ft0] (t13 fu))
  | false => (tb21 fu) f
theorem tb13_sound (fu : Nat) : SoundF' Tryd.prog (tb13 fu) := by
  intro f own told h
  unfold tb13 at h
  split at h
  · rename_i hb
    cases h
    have := Nat.eq_of_beq_eq_true hb
    subst this
    exact ghG_sound (s13 fu)
  · exact (tb21_sound fu) f own told h

end Go.Proofs.YtlakjegifgonbaaDoor.V

/- Printed by ugen: daisychain/daisychainlaw13.same -/
namespace Go.Proofs.YtlakjegifgonbaaDoor.V
set_option maxRecDepth 100000
set_option maxHeartbeats 4000000

abbrev ft2 : List FT := [FT.int IntKind.i64, FT.row 8 [FT.int IntKind.i64], FT.bool]

noncomputable def code17 : Code := match Tryd.f17.body with | some c => c | none => .skip
theorem a17_58 : codeAt code17 58 = some (.loop (loopBody (codeAt code17 58))) := by kernel_rfl
noncomputable def F17_58 {R : Type} (fu : Nat) (x : Int) (a1 : List (List D)) (b1 : List (List D)) : Nat → Int → (Option R) → (Option R) → Option R
  | 0, _, _, _ => none
  | n + 1, x1, k0, k1 => bif decide (x1 < x) then bif within x1 a1.length then bif within x1 b1.length then bif !decide ((cell 0 (elem x1.toNat a1)).toInt = (cell 0 (elem x1.toNat b1)).toInt) then (k0) else (F17_58 fu x a1 b1 n (IntKind.i64.wrap (x1 + 1)) k0 k1) else none else none else (k1)

noncomputable def t17_58 (fu n : Nat) : ToldP := fun _ e s K => match e, s with
  | [.ptr 0 0, .ptr 1 0, .int .i64 x, .int .i64 x1], [.obj [.int .i64 a, .fz zq0 a1 false, .bool a2], .obj [.int .i64 b, .fz zq1 b1 false, .bool b2]] => (match FT.sames zq0 ft0 with | true => (match FT.sames zq1 ft0 with | true => F17_58 fu x a1 b1 n x1 (K .ret (unpackM (bitsM 5 0x10) [.bool (false)]) []) (K (.exit 0) (unpackM (bitsM 5 0x0) []) []) | false => none) | false => none)
  | _, _ => none

noncomputable def pc17_58 (fu : Nat) : Nat → Option ToldP := fun _ => none
theorem e17_58 (fu n : Nat) (R : Type) (K : VExit → UEnv → USt → Option R) (x : Int) (x1 : Int) (a : Int) (a1 : List (List D)) (a2 : Bool) (b : Int) (b1 : List (List D)) (b2 : Bool) :
    F17_58 fu x a1 b1 (n + 1) x1 (K .ret (unpackM (bitsM 5 0x10) [.bool (false)]) []) (K (.exit 0) (unpackM (bitsM 5 0x0) []) []) = uexec Tryd.prog (tb13 fu) 300 (pc17_58 fu) 116 (loopBody (codeAt code17 58)) (unpackM (bitsM 31 0x6000000c) [.ptr 0 0, .ptr 1 0, .int .i64 x, .int .i64 x1]) [.obj [.int .i64 a, .fz ft0 a1 false, .bool a2], .obj [.int .i64 b, .fz ft0 b1 false, .bool b2]] (loopK 0 [.live (bitsM 31 0x6000000c), .gc, .fzC 0 1 ft0, .fzC 1 1 ft0, .gc] [.live (bitsM 5 0x10), .gc] (pkP (bitsM 31 0x6000000c) (t17_58 fu n)) K) := by kernel_rfl

theorem p17_58 (fu : Nat) : SoundPc Tryd.prog 0 code17 (pc17_58 fu) := SoundPc.none _ _ _
theorem s17_58 (fu : Nat) : ∀ n, SoundP Tryd.prog 0 (.loop (loopBody (codeAt code17 58))) (pkP (bitsM 31 0x6000000c) (t17_58 fu n)) := by
  refine loopP_sound (gin := [.live (bitsM 31 0x6000000c), .gc, .fzC 0 1 ft0, .fzC 1 1 ft0, .gc]) (gout := [.live (bitsM 5 0x10), .gc]) (k := 300) (tb13_sound fu) (p17_58 fu) (by decide) a17_58 (fun R e s K => ?_) (fun n R e s K r h => ?_)
  · unfold t17_58; repeat' split
    all_goals rfl
  · unfold t17_58 at h; split at h
    case h_2 => cases h
    split at h
    case h_2 => cases h
    rename_i hq
    have hq := FT.sames_eq _ _ hq
    subst hq
    split at h
    case h_2 => cases h
    rename_i hq
    have hq := FT.sames_eq _ _ hq
    subst hq
    exact (e17_58 fu n R K _ _ _ _ _ _ _ _).symm.trans h


noncomputable def Fb17 {R : Type} (fu : Nat) (a : List D) (b : List D) (k0 : Bool → Option R) : Option R :=
  bif !decide ((cell 0 a).toInt = (cell 0 b).toInt) then (k0 false) else bif !(cell 2 a).toBool == (cell 2 b).toBool then (k0 false) else bif !decide (ofN (cell 1 a).toRows.length = ofN (cell 1 b).toRows.length) then (k0 false) else F17_58 fu (ofN (cell 1 a).toRows.length) (cell 1 a).toRows (cell 1 b).toRows fu 0 ((k0 false)) ((k0 true))

noncomputable def F17 {R : Type} (fu : Nat) (a : List D) (b : List D) (k0 : Bool → Option R) : Option R := shut (@Fb17 R) fu a b k0
theorem F17_eq {R : Type} (fu : Nat) (a : List D) (b : List D) (k0 : Bool → Option R) : F17 fu a b k0 = Fb17 fu a b k0 := by unfold F17; rw [shut_eq]

noncomputable def pc17 (fu : Nat) : Nat → Option ToldP := fun p => match Nat.beq p 58 with | true => some (ghP 0 [.live (bitsM 31 0x6000000c), .gc, .fzC 0 1 ft0, .fzC 1 1 ft0, .gc] (pkP (bitsM 31 0x6000000c) (t17_58 fu fu))) | false => none
noncomputable def t17 (fu : Nat) : ToldF := fun _ args s K => match args, s with
  | [.agg [.int .i64 q, .fz zq0 q1 false, .bool q2], .agg [.int .i64 q3, .fz zq1 q4 false, .bool q5]], [] => (match FT.sames zq0 ft0 with | true => (match FT.sames zq1 ft0 with | true => F17 fu [D.int q, D.row q1, D.bool q2] [D.int q3, D.row q4, D.bool q5] (fun o_ => K (.bool o_) []) | false => none) | false => none)
  | _, _ => none

theorem e17 (R : Type) (K : UV → USt → Option R) (fu : Nat) (q : Int) (q1 : List (List D)) (q2 : Bool) (q3 : Int) (q4 : List (List D)) (q5 : Bool) :
    F17 fu [D.int q, D.row q1, D.bool q2] [D.int q3, D.row q4, D.bool q5] (fun o_ => K (.bool o_) []) = ufun Tryd.prog ⟨(tb13 fu), pc17 fu⟩ 300 17 [.agg [.int .i64 q, .fz ft0 q1 false, .bool q2], .agg [.int .i64 q3, .fz ft0 q4 false, .bool q5]] [] (funK 0 [.gc] K) := (F17_eq fu _ _ _).trans (by kernel_rfl)

theorem s17 (fu : Nat) : Tells Tryd.prog 17 (t17 fu) := by
  refine ufun_sound (T := ⟨(tb13 fu), pc17 fu⟩) (m := 0) (gout := [.gc]) (k := 300) (tb13_sound fu) (fun fn body hf hb => ?_) (fun R args s K r h => ?_) (fun R args s K r h => ?_)
  · have hc : body = code17 := by
      have h1 : Tryd.prog.funcs[17]? = some Tryd.f17 := rfl
      rw [h1] at hf; cases hf
      have h2 : Tryd.f17.body = some code17 := rfl
      rw [h2] at hb; cases hb; rfl
    subst hc
    exact fun p told h b hb => by
      replace h : pc17 fu p = some told := h
      unfold pc17 at h
      split at h
      · rename_i hp
        cases h
        have := Nat.eq_of_beq_eq_true hp
        subst this
        rw [a17_58] at hb
        cases hb
        exact ghP_sound (s17_58 fu _)
      ·
        cases h

  · unfold t17 at h; split at h
    · rfl
    · cases h
  · unfold t17 at h; split at h
    case h_2 => cases h
    split at h
    case h_2 => cases h
    rename_i hq
    have hq := FT.sames_eq _ _ hq
    subst hq
    split at h
    case h_2 => cases h
    rename_i hq
    have hq := FT.sames_eq _ _ hq
    subst hq
    exact (e17 R K fu _ _ _ _ _ _).symm.trans h

noncomputable def tb17 (fu : Nat) : FuncId → Option (Bool × ToldF) := fun f => match Nat.beq f 17 with
  | true => some (false, ghG [.fzP 0 [1] ft0, .fzP 1 [1] ft0] (t17 fu))
  | false => (tb13 fu) f
theorem tb17_sound (fu : Nat) : SoundF' Tryd.prog (tb17 fu) := by
  intro f own told h
  unfold tb17 at h
  split at h
  · rename_i hb
    cases h
    have := Nat.eq_of_beq_eq_true hb
    subst this
    exact ghG_sound (s17 fu)
  · exact (tb13_sound fu) f own told h

end Go.Proofs.YtlakjegifgonbaaDoor.V

/- Printed by ugen: daisychain/daisychainlaw13.few -/
namespace Go.Proofs.YtlakjegifgonbaaDoor.V
set_option maxRecDepth 100000
set_option maxHeartbeats 4000000


noncomputable def code9 : Code := match Tryd.f9.body with | some c => c | none => .skip
theorem a9_26 : codeAt code9 26 = some (.loop (loopBody (codeAt code9 26))) := by kernel_rfl
noncomputable def F9_26 {R : Type} (fu : Nat) (l : List (List D)) : Nat → Int → (Option R) → (Option R) → Option R
  | 0, _, _, _ => none
  | n + 1, k_, k0, k1 => bif decide (k_ < ofN l.length) then bif decide (k_ ≤ 60) then bif within k_ l.length then bif decide (20 < ofN (cell 4 (elem k_.toNat l)).toRows.length) then (k0) else (F9_26 fu l n (IntKind.i64.wrap (k_ + 1)) k0 k1) else none else (k1) else (k1)

noncomputable def t9_26 (fu n : Nat) : ToldP := fun _ e s K => match e, s with
  | [.fz zq0 l false, .int .i64 k_], [] => (match FT.sames zq0 ft1 with | true => F9_26 fu l n k_ (K .ret (unpackM (bitsM 3 0x5) [.fz ft1 (l) false, .bool (false)]) []) (K (.exit 0) (unpackM (bitsM 3 0x1) [.fz ft1 (l) false]) []) | false => none)
  | _, _ => none

noncomputable def pc9_26 (fu : Nat) : Nat → Option ToldP := fun _ => none
theorem e9_26 (fu n : Nat) (R : Type) (K : VExit → UEnv → USt → Option R) (l : List (List D)) (k_ : Int) :
    F9_26 fu l (n + 1) k_ (K .ret (unpackM (bitsM 3 0x5) [.fz ft1 (l) false, .bool (false)]) []) (K (.exit 0) (unpackM (bitsM 3 0x1) [.fz ft1 (l) false]) []) = uexec Tryd.prog (tb17 fu) 300 (pc9_26 fu) 52 (loopBody (codeAt code9 26)) (unpackM (bitsM 4 0x9) [.fz ft1 l false, .int .i64 k_]) [] (loopK 0 [.live (bitsM 4 0x9), .fzP 0 [] ft1, .gc] [.live (bitsM 3 0x5), .gc] (pkP (bitsM 4 0x9) (t9_26 fu n)) K) := by kernel_rfl

theorem p9_26 (fu : Nat) : SoundPc Tryd.prog 0 code9 (pc9_26 fu) := SoundPc.none _ _ _
theorem s9_26 (fu : Nat) : ∀ n, SoundP Tryd.prog 0 (.loop (loopBody (codeAt code9 26))) (pkP (bitsM 4 0x9) (t9_26 fu n)) := by
  refine loopP_sound (gin := [.live (bitsM 4 0x9), .fzP 0 [] ft1, .gc]) (gout := [.live (bitsM 3 0x5), .gc]) (k := 300) (tb17_sound fu) (p9_26 fu) (by decide) a9_26 (fun R e s K => ?_) (fun n R e s K r h => ?_)
  · unfold t9_26; repeat' split
    all_goals rfl
  · unfold t9_26 at h; split at h
    case h_2 => cases h
    split at h
    case h_2 => cases h
    rename_i hq
    have hq := FT.sames_eq _ _ hq
    subst hq
    exact (e9_26 fu n R K _ _).symm.trans h


noncomputable def Fb9 {R : Type} (fu : Nat) (l : List (List D)) (k0 : Bool → Option R) : Option R :=
  F9_26 fu l fu 0 ((k0 false)) ((k0 (decide (ofN l.length ≤ 60))))

noncomputable def F9 {R : Type} (fu : Nat) (l : List (List D)) (k0 : Bool → Option R) : Option R := shut (@Fb9 R) fu l k0
theorem F9_eq {R : Type} (fu : Nat) (l : List (List D)) (k0 : Bool → Option R) : F9 fu l k0 = Fb9 fu l k0 := by unfold F9; rw [shut_eq]

noncomputable def pc9 (fu : Nat) : Nat → Option ToldP := fun p => match Nat.beq p 26 with | true => some (ghP 0 [.live (bitsM 4 0x9), .fzP 0 [] ft1, .gc] (pkP (bitsM 4 0x9) (t9_26 fu fu))) | false => none
noncomputable def t9 (fu : Nat) : ToldF := fun _ args s K => match args, s with
  | [.fz zq0 l false], [] => (match FT.sames zq0 ft1 with | true => F9 fu l (fun o_ => K (.bool o_) []) | false => none)
  | _, _ => none

theorem e9 (R : Type) (K : UV → USt → Option R) (fu : Nat) (l : List (List D)) :
    F9 fu l (fun o_ => K (.bool o_) []) = ufun Tryd.prog ⟨(tb17 fu), pc9 fu⟩ 300 9 [.fz ft1 l false] [] (funK 0 [.gc] K) := (F9_eq fu _ _).trans (by kernel_rfl)

theorem s9 (fu : Nat) : Tells Tryd.prog 9 (t9 fu) := by
  refine ufun_sound (T := ⟨(tb17 fu), pc9 fu⟩) (m := 0) (gout := [.gc]) (k := 300) (tb17_sound fu) (fun fn body hf hb => ?_) (fun R args s K r h => ?_) (fun R args s K r h => ?_)
  · have hc : body = code9 := by
      have h1 : Tryd.prog.funcs[9]? = some Tryd.f9 := rfl
      rw [h1] at hf; cases hf
      have h2 : Tryd.f9.body = some code9 := rfl
      rw [h2] at hb; cases hb; rfl
    subst hc
    exact fun p told h b hb => by
      replace h : pc9 fu p = some told := h
      unfold pc9 at h
      split at h
      · rename_i hp
        cases h
        have := Nat.eq_of_beq_eq_true hp
        subst this
        rw [a9_26] at hb
        cases hb
        exact ghP_sound (s9_26 fu _)
      ·
        cases h

  · unfold t9 at h; split at h
    · rfl
    · cases h
  · unfold t9 at h; split at h
    case h_2 => cases h
    split at h
    case h_2 => cases h
    rename_i hq
    have hq := FT.sames_eq _ _ hq
    subst hq
    exact (e9 R K fu _).symm.trans h

noncomputable def tb9 (fu : Nat) : FuncId → Option (Bool × ToldF) := fun f => match Nat.beq f 9 with
  | true => some (false, ghG [.fzP 0 [] ft1] (t9 fu))
  | false => (tb17 fu) f
theorem tb9_sound (fu : Nat) : SoundF' Tryd.prog (tb9 fu) := by
  intro f own told h
  unfold tb9 at h
  split at h
  · rename_i hb
    cases h
    have := Nat.eq_of_beq_eq_true hb
    subst this
    exact ghG_sound (s9 fu)
  · exact (tb17_sound fu) f own told h

end Go.Proofs.YtlakjegifgonbaaDoor.V

/- Printed by ugen: daisychain/daisychainref13.members -/
namespace Go.Proofs.YtlakjegifgonbaaDoor.V
set_option maxRecDepth 100000
set_option maxHeartbeats 4000000


noncomputable def code24 : Code := match Tryd.f24.body with | some c => c | none => .skip
theorem a24_26 : codeAt code24 26 = some (.loop (loopBody (codeAt code24 26))) := by kernel_rfl
noncomputable def F24_26 {R : Type} (fu : Nat) (l : List (List D)) : Nat → Int → (Option R) → (Option R) → Option R
  | 0, _, _, _ => none
  | n + 1, i, k0, k1 => bif decide (i < ofN l.length) then bif within i l.length then bif decide ((cell 0 (elem i.toNat l)).toInt < 0) then (k0) else bif within i l.length then bif decide (99 < (cell 0 (elem i.toNat l)).toInt) then (k0) else bif within i l.length then F21 fu l (cell 0 (elem i.toNat l)).toInt fun o_0 => bif !decide (o_0 = i) then (k0) else (F24_26 fu l n (IntKind.i64.wrap (i + 1)) k0 k1) else none else none else none else (k1)

noncomputable def t24_26 (fu n : Nat) : ToldP := fun _ e s K => match e, s with
  | [.fz zq0 l false, .int .i64 i], [] => (match FT.sames zq0 ft0 with | true => F24_26 fu l n i (K .ret (unpackM (bitsM 3 0x5) [.fz ft0 (l) false, .bool (false)]) []) (K (.exit 0) (unpackM (bitsM 3 0x1) [.fz ft0 (l) false]) []) | false => none)
  | _, _ => none

noncomputable def pc24_26 (fu : Nat) : Nat → Option ToldP := fun _ => none
theorem e24_26 (fu n : Nat) (R : Type) (K : VExit → UEnv → USt → Option R) (l : List (List D)) (i : Int) :
    F24_26 fu l (n + 1) i (K .ret (unpackM (bitsM 3 0x5) [.fz ft0 (l) false, .bool (false)]) []) (K (.exit 0) (unpackM (bitsM 3 0x1) [.fz ft0 (l) false]) []) = uexec Tryd.prog (tb9 fu) 300 (pc24_26 fu) 52 (loopBody (codeAt code24 26)) (unpackM (bitsM 4 0x9) [.fz ft0 l false, .int .i64 i]) [] (loopK 0 [.live (bitsM 4 0x9), .fzP 0 [] ft0, .gc] [.live (bitsM 3 0x5), .gc] (pkP (bitsM 4 0x9) (t24_26 fu n)) K) := by kernel_rfl

theorem p24_26 (fu : Nat) : SoundPc Tryd.prog 0 code24 (pc24_26 fu) := SoundPc.none _ _ _
theorem s24_26 (fu : Nat) : ∀ n, SoundP Tryd.prog 0 (.loop (loopBody (codeAt code24 26))) (pkP (bitsM 4 0x9) (t24_26 fu n)) := by
  refine loopP_sound (gin := [.live (bitsM 4 0x9), .fzP 0 [] ft0, .gc]) (gout := [.live (bitsM 3 0x5), .gc]) (k := 300) (tb9_sound fu) (p24_26 fu) (by decide) a24_26 (fun R e s K => ?_) (fun n R e s K r h => ?_)
  · unfold t24_26; repeat' split
    all_goals rfl
  · unfold t24_26 at h; split at h
    case h_2 => cases h
    split at h
    case h_2 => cases h
    rename_i hq
    have hq := FT.sames_eq _ _ hq
    subst hq
    exact (e24_26 fu n R K _ _).symm.trans h


noncomputable def Fb24 {R : Type} (fu : Nat) (l : List (List D)) (k0 : Bool → Option R) : Option R :=
  F24_26 fu l fu 0 ((k0 false)) (bif decide (0 < ofN l.length) then (k0 (decide (ofN l.length < 8))) else (k0 false))

noncomputable def F24 {R : Type} (fu : Nat) (l : List (List D)) (k0 : Bool → Option R) : Option R := shut (@Fb24 R) fu l k0
theorem F24_eq {R : Type} (fu : Nat) (l : List (List D)) (k0 : Bool → Option R) : F24 fu l k0 = Fb24 fu l k0 := by unfold F24; rw [shut_eq]

noncomputable def pc24 (fu : Nat) : Nat → Option ToldP := fun p => match Nat.beq p 26 with | true => some (ghP 0 [.live (bitsM 4 0x9), .fzP 0 [] ft0, .gc] (pkP (bitsM 4 0x9) (t24_26 fu fu))) | false => none
noncomputable def t24 (fu : Nat) : ToldF := fun _ args s K => match args, s with
  | [.fz zq0 l false], [] => (match FT.sames zq0 ft0 with | true => F24 fu l (fun o_ => K (.bool o_) []) | false => none)
  | _, _ => none

theorem e24 (R : Type) (K : UV → USt → Option R) (fu : Nat) (l : List (List D)) :
    F24 fu l (fun o_ => K (.bool o_) []) = ufun Tryd.prog ⟨(tb9 fu), pc24 fu⟩ 300 24 [.fz ft0 l false] [] (funK 0 [.gc] K) := (F24_eq fu _ _).trans (by kernel_rfl)

theorem s24 (fu : Nat) : Tells Tryd.prog 24 (t24 fu) := by
  refine ufun_sound (T := ⟨(tb9 fu), pc24 fu⟩) (m := 0) (gout := [.gc]) (k := 300) (tb9_sound fu) (fun fn body hf hb => ?_) (fun R args s K r h => ?_) (fun R args s K r h => ?_)
  · have hc : body = code24 := by
      have h1 : Tryd.prog.funcs[24]? = some Tryd.f24 := rfl
      rw [h1] at hf; cases hf
      have h2 : Tryd.f24.body = some code24 := rfl
      rw [h2] at hb; cases hb; rfl
    subst hc
    exact fun p told h b hb => by
      replace h : pc24 fu p = some told := h
      unfold pc24 at h
      split at h
      · rename_i hp
        cases h
        have := Nat.eq_of_beq_eq_true hp
        subst this
        rw [a24_26] at hb
        cases hb
        exact ghP_sound (s24_26 fu _)
      ·
        cases h

  · unfold t24 at h; split at h
    · rfl
    · cases h
  · unfold t24 at h; split at h
    case h_2 => cases h
    split at h
    case h_2 => cases h
    rename_i hq
    have hq := FT.sames_eq _ _ hq
    subst hq
    exact (e24 R K fu _).symm.trans h

noncomputable def tb24 (fu : Nat) : FuncId → Option (Bool × ToldF) := fun f => match Nat.beq f 24 with
  | true => some (false, ghG [.fzP 0 [] ft0] (t24 fu))
  | false => (tb9 fu) f
theorem tb24_sound (fu : Nat) : SoundF' Tryd.prog (tb24 fu) := by
  intro f own told h
  unfold tb24 at h
  split at h
  · rename_i hb
    cases h
    have := Nat.eq_of_beq_eq_true hb
    subst this
    exact ghG_sound (s24 fu)
  · exact (tb9_sound fu) f own told h

end Go.Proofs.YtlakjegifgonbaaDoor.V

/- Printed by ugen: daisychain/master.members -/
namespace Go.Proofs.YtlakjegifgonbaaDoor.V
set_option maxRecDepth 100000
set_option maxHeartbeats 4000000


noncomputable def code38 : Code := match Tryd.f38.body with | some c => c | none => .skip
theorem a38_26 : codeAt code38 26 = some (.loop (loopBody (codeAt code38 26))) := by kernel_rfl
noncomputable def F38_26 {R : Type} (fu : Nat) (l : List (List D)) (x : List (List D)) (x1 : Int) : Nat → Int → (Option R) → (Option R) → Option R
  | 0, _, _, _ => none
  | n + 1, x2, k0, k1 => bif decide (x2 < x1) then bif within x2 x.length then F41 fu (cell 0 (elem x2.toNat x)).toInt fun o_0 => bif !o_0 then (k0) else bif decide ((0 : Int) ≤ 0 ∧ 0 ≤ x2) && upTo x2 l.length then F48 fu (part l 0 x2.toNat) (cell 0 (elem x2.toNat x)).toInt fun o_1 => bif o_1 then (k0) else (F38_26 fu l x x1 n (IntKind.i64.wrap (x2 + 1)) k0 k1) else none else none else (k1)

noncomputable def t38_26 (fu n : Nat) : ToldP := fun _ e s K => match e, s with
  | [.fz zq0 l false, .fz zq1 x false, .int .i64 x1, .int .i64 x2], [] => (match FT.sames zq0 ft0 with | true => (match FT.sames zq1 ft0 with | true => F38_26 fu l x x1 n x2 (K .ret (unpackM (bitsM 3 0x5) [.fz ft0 (l) false, .bool (false)]) []) (K (.exit 0) (unpackM (bitsM 3 0x1) [.fz ft0 (l) false]) []) | false => none) | false => none)
  | _, _ => none

noncomputable def pc38_26 (fu : Nat) : Nat → Option ToldP := fun _ => none
theorem e38_26 (fu n : Nat) (R : Type) (K : VExit → UEnv → USt → Option R) (l : List (List D)) (x : List (List D)) (x1 : Int) (x2 : Int) :
    F38_26 fu l x x1 (n + 1) x2 (K .ret (unpackM (bitsM 3 0x5) [.fz ft0 (l) false, .bool (false)]) []) (K (.exit 0) (unpackM (bitsM 3 0x1) [.fz ft0 (l) false]) []) = uexec Tryd.prog (tb24 fu) 300 (pc38_26 fu) 52 (loopBody (codeAt code38 26)) (unpackM (bitsM 8 0xe1) [.fz ft0 l false, .fz ft0 x false, .int .i64 x1, .int .i64 x2]) [] (loopK 0 [.live (bitsM 8 0xe1), .fzP 0 [] ft0, .fzP 5 [] ft0, .gc] [.live (bitsM 3 0x5), .gc] (pkP (bitsM 8 0xe1) (t38_26 fu n)) K) := by kernel_rfl

theorem p38_26 (fu : Nat) : SoundPc Tryd.prog 0 code38 (pc38_26 fu) := SoundPc.none _ _ _
theorem s38_26 (fu : Nat) : ∀ n, SoundP Tryd.prog 0 (.loop (loopBody (codeAt code38 26))) (pkP (bitsM 8 0xe1) (t38_26 fu n)) := by
  refine loopP_sound (gin := [.live (bitsM 8 0xe1), .fzP 0 [] ft0, .fzP 5 [] ft0, .gc]) (gout := [.live (bitsM 3 0x5), .gc]) (k := 300) (tb24_sound fu) (p38_26 fu) (by decide) a38_26 (fun R e s K => ?_) (fun n R e s K r h => ?_)
  · unfold t38_26; repeat' split
    all_goals rfl
  · unfold t38_26 at h; split at h
    case h_2 => cases h
    split at h
    case h_2 => cases h
    rename_i hq
    have hq := FT.sames_eq _ _ hq
    subst hq
    split at h
    case h_2 => cases h
    rename_i hq
    have hq := FT.sames_eq _ _ hq
    subst hq
    exact (e38_26 fu n R K _ _ _ _).symm.trans h


noncomputable def Fb38 {R : Type} (fu : Nat) (l : List (List D)) (k0 : Bool → Option R) : Option R :=
  F38_26 fu l l (ofN l.length) fu 0 ((k0 false)) (bif decide (1 ≤ ofN l.length) then (k0 (decide (ofN l.length ≤ 7))) else (k0 false))

noncomputable def F38 {R : Type} (fu : Nat) (l : List (List D)) (k0 : Bool → Option R) : Option R := shut (@Fb38 R) fu l k0
theorem F38_eq {R : Type} (fu : Nat) (l : List (List D)) (k0 : Bool → Option R) : F38 fu l k0 = Fb38 fu l k0 := by unfold F38; rw [shut_eq]

noncomputable def pc38 (fu : Nat) : Nat → Option ToldP := fun p => match Nat.beq p 26 with | true => some (ghP 0 [.live (bitsM 8 0xe1), .fzP 0 [] ft0, .fzP 5 [] ft0, .gc] (pkP (bitsM 8 0xe1) (t38_26 fu fu))) | false => none
noncomputable def t38 (fu : Nat) : ToldF := fun _ args s K => match args, s with
  | [.fz zq0 l false], [] => (match FT.sames zq0 ft0 with | true => F38 fu l (fun o_ => K (.bool o_) []) | false => none)
  | _, _ => none

theorem e38 (R : Type) (K : UV → USt → Option R) (fu : Nat) (l : List (List D)) :
    F38 fu l (fun o_ => K (.bool o_) []) = ufun Tryd.prog ⟨(tb24 fu), pc38 fu⟩ 300 38 [.fz ft0 l false] [] (funK 0 [.gc] K) := (F38_eq fu _ _).trans (by kernel_rfl)

theorem s38 (fu : Nat) : Tells Tryd.prog 38 (t38 fu) := by
  refine ufun_sound (T := ⟨(tb24 fu), pc38 fu⟩) (m := 0) (gout := [.gc]) (k := 300) (tb24_sound fu) (fun fn body hf hb => ?_) (fun R args s K r h => ?_) (fun R args s K r h => ?_)
  · have hc : body = code38 := by
      have h1 : Tryd.prog.funcs[38]? = some Tryd.f38 := rfl
      rw [h1] at hf; cases hf
      have h2 : Tryd.f38.body = some code38 := rfl
      rw [h2] at hb; cases hb; rfl
    subst hc
    exact fun p told h b hb => by
      replace h : pc38 fu p = some told := h
      unfold pc38 at h
      split at h
      · rename_i hp
        cases h
        have := Nat.eq_of_beq_eq_true hp
        subst this
        rw [a38_26] at hb
        cases hb
        exact ghP_sound (s38_26 fu _)
      ·
        cases h

  · unfold t38 at h; split at h
    · rfl
    · cases h
  · unfold t38 at h; split at h
    case h_2 => cases h
    split at h
    case h_2 => cases h
    rename_i hq
    have hq := FT.sames_eq _ _ hq
    subst hq
    exact (e38 R K fu _).symm.trans h

noncomputable def tb38 (fu : Nat) : FuncId → Option (Bool × ToldF) := fun f => match Nat.beq f 38 with
  | true => some (false, ghG [.fzP 0 [] ft0] (t38 fu))
  | false => (tb24 fu) f
theorem tb38_sound (fu : Nat) : SoundF' Tryd.prog (tb38 fu) := by
  intro f own told h
  unfold tb38 at h
  split at h
  · rename_i hb
    cases h
    have := Nat.eq_of_beq_eq_true hb
    subst this
    exact ghG_sound (s38 fu)
  · exact (tb24_sound fu) f own told h

end Go.Proofs.YtlakjegifgonbaaDoor.V

/- Printed by ugen: daisychain/master.New -/
namespace Go.Proofs.YtlakjegifgonbaaDoor.V
set_option maxRecDepth 100000
set_option maxHeartbeats 4000000


noncomputable def code11 : Code := match Tryd.f11.body with | some c => c | none => .skip

noncomputable def Fb11 {R : Type} (fu : Nat) (k0 : Option R) : Option R :=
  (k0)

noncomputable def F11 {R : Type} (fu : Nat) (k0 : Option R) : Option R := shut (@Fb11 R) fu k0
theorem F11_eq {R : Type} (fu : Nat) (k0 : Option R) : F11 fu k0 = Fb11 fu k0 := by unfold F11; rw [shut_eq]

noncomputable def pc11 (fu : Nat) : Nat → Option ToldP := fun _ => none
noncomputable def t11 (fu : Nat) : ToldF := fun _ args s K => match args, s with
  | [], [] => F11 fu  (K (.ptr 0 0) [.obj [.map 1], .map (.int .i64) true ft2 ([])])
  | _, _ => none

theorem e11 (R : Type) (K : UV → USt → Option R) (fu : Nat) :
    F11 fu  (K (.ptr 0 0) [.obj [.map 1], .map (.int .i64) true ft2 ([])]) = ufun Tryd.prog ⟨(tb38 fu), pc11 fu⟩ 300 11 [] [] (funK 0 [.gc] K) := (F11_eq fu _).trans (by kernel_rfl)

theorem s11 (fu : Nat) : Tells Tryd.prog 11 (t11 fu) := by
  refine ufun_sound (T := ⟨(tb38 fu), pc11 fu⟩) (m := 0) (gout := [.gc]) (k := 300) (tb38_sound fu) (fun fn body hf hb => ?_) (fun R args s K r h => ?_) (fun R args s K r h => ?_)
  · have hc : body = code11 := by
      have h1 : Tryd.prog.funcs[11]? = some Tryd.f11 := rfl
      rw [h1] at hf; cases hf
      have h2 : Tryd.f11.body = some code11 := rfl
      rw [h2] at hb; cases hb; rfl
    subst hc
    exact SoundPc.none _ _ _
  · unfold t11 at h; split at h
    · rfl
    · cases h
  · unfold t11 at h; split at h
    case h_2 => cases h
    exact (e11 R K fu).symm.trans h

noncomputable def tb11 (fu : Nat) : FuncId → Option (Bool × ToldF) := fun f => match Nat.beq f 11 with
  | true => some (false, ghG [] (t11 fu))
  | false => (tb38 fu) f
theorem tb11_sound (fu : Nat) : SoundF' Tryd.prog (tb11 fu) := by
  intro f own told h
  unfold tb11 at h
  split at h
  · rename_i hb
    cases h
    have := Nat.eq_of_beq_eq_true hb
    subst this
    exact ghG_sound (s11 fu)
  · exact (tb38_sound fu) f own told h

end Go.Proofs.YtlakjegifgonbaaDoor.V

/- Printed by ugen: (*daisychain/master.Table).begin -/
namespace Go.Proofs.YtlakjegifgonbaaDoor.V
set_option maxRecDepth 100000
set_option maxHeartbeats 4000000

abbrev ft3 : List FT := [FT.int IntKind.i64, FT.row 8 [FT.int IntKind.i64], FT.bool, FT.int IntKind.i64, FT.row 8 [FT.int IntKind.i64], FT.bool, FT.int IntKind.i64, FT.row 8 [FT.int IntKind.i64], FT.bool, FT.int IntKind.i64, FT.row 8 [FT.int IntKind.i64], FT.bool, FT.int IntKind.i64, FT.row 8 [FT.int IntKind.i64], FT.bool, FT.int IntKind.i64, FT.row 8 [FT.int IntKind.i64], FT.bool, FT.int IntKind.i64, FT.row 8 [FT.int IntKind.i64], FT.bool, FT.int IntKind.i64, FT.row 8 [FT.int IntKind.i64], FT.bool, FT.int IntKind.i64, FT.row 8 [FT.int IntKind.i64], FT.bool, FT.int IntKind.i64, FT.row 8 [FT.int IntKind.i64], FT.bool]
abbrev ft4 : List FT := [FT.row 8 [FT.int IntKind.i64]]

noncomputable def code25 : Code := match Tryd.f25.body with | some c => c | none => .skip

noncomputable def Fb25 {R : Type} (fu : Nat) (o_ : List D) (t_l : List (D × List D)) (k0 : Int → (List (D × List D)) → Option R) : Option R :=
  bif mhas t_l (D.int (cell 1 o_).toInt) then (k0 7 t_l) else F38 fu (cell 4 o_).toRows fun o_0 => bif !o_0 then (k0 1 t_l) else bif fits (cell 4 o_).toRows.length 8 then (k0 0 (mput t_l (D.int (cell 1 o_).toInt) [D.int 1, D.row (cell 4 o_).toRows, D.bool false])) else none

noncomputable def F25 {R : Type} (fu : Nat) (o_ : List D) (t_l : List (D × List D)) (k0 : Int → (List (D × List D)) → Option R) : Option R := shut (@Fb25 R) fu o_ t_l k0
theorem F25_eq {R : Type} (fu : Nat) (o_ : List D) (t_l : List (D × List D)) (k0 : Int → (List (D × List D)) → Option R) : F25 fu o_ t_l k0 = Fb25 fu o_ t_l k0 := by unfold F25; rw [shut_eq]

noncomputable def pc25 (fu : Nat) : Nat → Option ToldP := fun _ => none
noncomputable def t25 (fu : Nat) : ToldF := fun _ args s K => match args, s with
  | [.ptr 0 0, .agg [.int .i64 q, .int .i64 q1, .int .i64 q2, .int .i64 q3, .fz zq0 q4 false]], [.obj [.map 1], .map (.int .i64) true zq1 t_l] => (match FT.sames zq0 ft0 with | true => (match FT.sames zq1 ft2 with | true => F25 fu [D.int q, D.int q1, D.int q2, D.int q3, D.row q4] t_l (fun o_ o_1 => K (.int .i64 o_) [.obj [.map 1], .map (.int .i64) true ft2 o_1]) | false => none) | false => none)
  | _, _ => none

theorem e25 (R : Type) (K : UV → USt → Option R) (fu : Nat) (q : Int) (q1 : Int) (q2 : Int) (q3 : Int) (q4 : List (List D)) (t_l : List (D × List D)) :
    F25 fu [D.int q, D.int q1, D.int q2, D.int q3, D.row q4] t_l (fun o_ o_1 => K (.int .i64 o_) [.obj [.map 1], .map (.int .i64) true ft2 o_1]) = ufun Tryd.prog ⟨(tb11 fu), pc25 fu⟩ 300 25 [.ptr 0 0, .agg [.int .i64 q, .int .i64 q1, .int .i64 q2, .int .i64 q3, .fz ft0 q4 false]] [.obj [.map 1], .map (.int .i64) true ft2 t_l] (funK 2 [.gc] K) := (F25_eq fu _ _ _).trans (by kernel_rfl)

theorem s25 (fu : Nat) : Tells Tryd.prog 25 (t25 fu) := by
  refine ufun_sound (T := ⟨(tb11 fu), pc25 fu⟩) (m := 2) (gout := [.gc]) (k := 300) (tb11_sound fu) (fun fn body hf hb => ?_) (fun R args s K r h => ?_) (fun R args s K r h => ?_)
  · have hc : body = code25 := by
      have h1 : Tryd.prog.funcs[25]? = some Tryd.f25 := rfl
      rw [h1] at hf; cases hf
      have h2 : Tryd.f25.body = some code25 := rfl
      rw [h2] at hb; cases hb; rfl
    subst hc
    exact SoundPc.none _ _ _
  · unfold t25 at h; split at h
    · rfl
    · cases h
  · unfold t25 at h; split at h
    case h_2 => cases h
    split at h
    case h_2 => cases h
    rename_i hq
    have hq := FT.sames_eq _ _ hq
    subst hq
    split at h
    case h_2 => cases h
    rename_i hq
    have hq := FT.sames_eq _ _ hq
    subst hq
    exact (e25 R K fu _ _ _ _ _ _).symm.trans h

noncomputable def tb25 (fu : Nat) : FuncId → Option (Bool × ToldF) := fun f => match Nat.beq f 25 with
  | true => some (false, ghG [.fzP 1 [4] ft0, .gc, .gc] (t25 fu))
  | false => (tb11 fu) f
theorem tb25_sound (fu : Nat) : SoundF' Tryd.prog (tb25 fu) := by
  intro f own told h
  unfold tb25 at h
  split at h
  · rename_i hb
    cases h
    have := Nat.eq_of_beq_eq_true hb
    subst this
    exact ghG_sound (s25 fu)
  · exact (tb11_sound fu) f own told h

end Go.Proofs.YtlakjegifgonbaaDoor.V

/- Printed by ugen: (daisychain/master.Config).At -/
namespace Go.Proofs.YtlakjegifgonbaaDoor.V
set_option maxRecDepth 100000
set_option maxHeartbeats 4000000


noncomputable def code18 : Code := match Tryd.f18.body with | some c => c | none => .skip

noncomputable def Fb18 {R : Type} (fu : Nat) (c : List D) (node : Int) (k0 : Int → Option R) : Option R :=
  F31 fu (cell 1 c).toRows node fun o_0 => (k0 o_0)

noncomputable def F18 {R : Type} (fu : Nat) (c : List D) (node : Int) (k0 : Int → Option R) : Option R := shut (@Fb18 R) fu c node k0
theorem F18_eq {R : Type} (fu : Nat) (c : List D) (node : Int) (k0 : Int → Option R) : F18 fu c node k0 = Fb18 fu c node k0 := by unfold F18; rw [shut_eq]

noncomputable def pc18 (fu : Nat) : Nat → Option ToldP := fun _ => none
noncomputable def t18 (fu : Nat) : ToldF := fun _ args s K => match args, s with
  | [.agg [.int .i64 q, .fz zq0 q1 false, .bool q2], .int .i64 node], [] => (match FT.sames zq0 ft0 with | true => F18 fu [D.int q, D.row q1, D.bool q2] node (fun o_ => K (.int .i64 o_) []) | false => none)
  | _, _ => none

theorem e18 (R : Type) (K : UV → USt → Option R) (fu : Nat) (q : Int) (q1 : List (List D)) (q2 : Bool) (node : Int) :
    F18 fu [D.int q, D.row q1, D.bool q2] node (fun o_ => K (.int .i64 o_) []) = ufun Tryd.prog ⟨(tb25 fu), pc18 fu⟩ 300 18 [.agg [.int .i64 q, .fz ft0 q1 false, .bool q2], .int .i64 node] [] (funK 0 [.gc] K) := (F18_eq fu _ _ _).trans (by kernel_rfl)

theorem s18 (fu : Nat) : Tells Tryd.prog 18 (t18 fu) := by
  refine ufun_sound (T := ⟨(tb25 fu), pc18 fu⟩) (m := 0) (gout := [.gc]) (k := 300) (tb25_sound fu) (fun fn body hf hb => ?_) (fun R args s K r h => ?_) (fun R args s K r h => ?_)
  · have hc : body = code18 := by
      have h1 : Tryd.prog.funcs[18]? = some Tryd.f18 := rfl
      rw [h1] at hf; cases hf
      have h2 : Tryd.f18.body = some code18 := rfl
      rw [h2] at hb; cases hb; rfl
    subst hc
    exact SoundPc.none _ _ _
  · unfold t18 at h; split at h
    · rfl
    · cases h
  · unfold t18 at h; split at h
    case h_2 => cases h
    split at h
    case h_2 => cases h
    rename_i hq
    have hq := FT.sames_eq _ _ hq
    subst hq
    exact (e18 R K fu _ _ _ _).symm.trans h

noncomputable def tb18 (fu : Nat) : FuncId → Option (Bool × ToldF) := fun f => match Nat.beq f 18 with
  | true => some (false, ghG [.fzP 0 [1] ft0] (t18 fu))
  | false => (tb25 fu) f
theorem tb18_sound (fu : Nat) : SoundF' Tryd.prog (tb18 fu) := by
  intro f own told h
  unfold tb18 at h
  split at h
  · rename_i hb
    cases h
    have := Nat.eq_of_beq_eq_true hb
    subst this
    exact ghG_sound (s18 fu)
  · exact (tb25_sound fu) f own told h

end Go.Proofs.YtlakjegifgonbaaDoor.V

/- Printed by ugen: (*daisychain/master.Table).Do -/
namespace Go.Proofs.YtlakjegifgonbaaDoor.V
set_option maxRecDepth 100000
set_option maxHeartbeats 4000000


noncomputable def code14 : Code := match Tryd.f14.body with | some c => c | none => .skip

noncomputable def Fb14 {R : Type} (fu : Nat) (o_ : List D) (t_l : List (D × List D)) (k0 : Int → (List (D × List D)) → Option R) : Option R :=
  bif decide ((cell 0 o_).toInt < 0) then (k0 1 t_l) else bif decide (3 < (cell 0 o_).toInt) then (k0 1 t_l) else bif decide ((cell 1 o_).toInt < 0) then (k0 1 t_l) else bif decide (10 ≤ (cell 1 o_).toInt) then (k0 1 t_l) else bif decide ((cell 0 o_).toInt = 0) then F25 fu [D.int (cell 0 o_).toInt, D.int (cell 1 o_).toInt, D.int (cell 2 o_).toInt, D.int (cell 3 o_).toInt, D.row (cell 4 o_).toRows] t_l fun o_0 o_1 => (k0 o_0 o_1) else bif fits (cell 1 (mget t_l (D.int (cell 1 o_).toInt) [D.int 0, D.nil, D.bool false])).toRows.length 8 then bif !mhas t_l (D.int (cell 1 o_).toInt) then (k0 6 t_l) else bif !decide ((cell 0 (mget t_l (D.int (cell 1 o_).toInt) [D.int 0, D.nil, D.bool false])).toInt = (cell 2 o_).toInt) then (k0 11 t_l) else bif decide ((cell 0 o_).toInt = 1) then F18 fu [D.int (cell 0 (mget t_l (D.int (cell 1 o_).toInt) [D.int 0, D.nil, D.bool false])).toInt, D.row (cell 1 (mget t_l (D.int (cell 1 o_).toInt) [D.int 0, D.nil, D.bool false])).toRows, D.bool (cell 2 (mget t_l (D.int (cell 1 o_).toInt) [D.int 0, D.nil, D.bool false])).toBool] (cell 3 o_).toInt fun o_2 => bif decide (o_2 < 0) then (k0 6 t_l) else bif (cell 2 (mget t_l (D.int (cell 1 o_).toInt) [D.int 0, D.nil, D.bool false])).toBool then bif (cell 2 (mget t_l (D.int (cell 1 o_).toInt) [D.int 0, D.nil, D.bool false])).toBool then bif !decide (o_2 = IntKind.i64.wrap (ofN (cell 1 (mget t_l (D.int (cell 1 o_).toInt) [D.int 0, D.nil, D.bool false])).toRows.length - 1)) then bif decide (IntKind.i64.wrap (ofN (cell 1 (mget t_l (D.int (cell 1 o_).toInt) [D.int 0, D.nil, D.bool false])).toRows.length - 1) < 2) then (k0 9 t_l) else bif delOK (cell 1 (mget t_l (D.int (cell 1 o_).toInt) [D.int 0, D.nil, D.bool false])).toRows o_2 (IntKind.i64.wrap (o_2 + 1)) then bif (cell 2 (mget t_l (D.int (cell 1 o_).toInt) [D.int 0, D.nil, D.bool false])).toBool then (k0 0 (mput t_l (D.int (cell 1 o_).toInt) [D.int (IntKind.i64.wrap ((cell 0 (mget t_l (D.int (cell 1 o_).toInt) [D.int 0, D.nil, D.bool false])).toInt + 1)), D.row (delAt (cell 1 (mget t_l (D.int (cell 1 o_).toInt) [D.int 0, D.nil, D.bool false])).toRows o_2.toNat (IntKind.i64.wrap (o_2 + 1)).toNat), D.bool !decide (o_2 = IntKind.i64.wrap (ofN (cell 1 (mget t_l (D.int (cell 1 o_).toInt) [D.int 0, D.nil, D.bool false])).toRows.length - 1))])) else (k0 0 (mput t_l (D.int (cell 1 o_).toInt) [D.int (IntKind.i64.wrap ((cell 0 (mget t_l (D.int (cell 1 o_).toInt) [D.int 0, D.nil, D.bool false])).toInt + 1)), D.row (delAt (cell 1 (mget t_l (D.int (cell 1 o_).toInt) [D.int 0, D.nil, D.bool false])).toRows o_2.toNat (IntKind.i64.wrap (o_2 + 1)).toNat), D.bool false])) else none else bif delOK (cell 1 (mget t_l (D.int (cell 1 o_).toInt) [D.int 0, D.nil, D.bool false])).toRows o_2 (IntKind.i64.wrap (o_2 + 1)) then bif (cell 2 (mget t_l (D.int (cell 1 o_).toInt) [D.int 0, D.nil, D.bool false])).toBool then (k0 0 (mput t_l (D.int (cell 1 o_).toInt) [D.int (IntKind.i64.wrap ((cell 0 (mget t_l (D.int (cell 1 o_).toInt) [D.int 0, D.nil, D.bool false])).toInt + 1)), D.row (delAt (cell 1 (mget t_l (D.int (cell 1 o_).toInt) [D.int 0, D.nil, D.bool false])).toRows o_2.toNat (IntKind.i64.wrap (o_2 + 1)).toNat), D.bool !decide (o_2 = IntKind.i64.wrap (ofN (cell 1 (mget t_l (D.int (cell 1 o_).toInt) [D.int 0, D.nil, D.bool false])).toRows.length - 1))])) else (k0 0 (mput t_l (D.int (cell 1 o_).toInt) [D.int (IntKind.i64.wrap ((cell 0 (mget t_l (D.int (cell 1 o_).toInt) [D.int 0, D.nil, D.bool false])).toInt + 1)), D.row (delAt (cell 1 (mget t_l (D.int (cell 1 o_).toInt) [D.int 0, D.nil, D.bool false])).toRows o_2.toNat (IntKind.i64.wrap (o_2 + 1)).toNat), D.bool false])) else none else bif !decide (o_2 = IntKind.i64.wrap (ofN (cell 1 (mget t_l (D.int (cell 1 o_).toInt) [D.int 0, D.nil, D.bool false])).toRows.length - 1)) then bif decide (ofN (cell 1 (mget t_l (D.int (cell 1 o_).toInt) [D.int 0, D.nil, D.bool false])).toRows.length < 2) then (k0 9 t_l) else bif delOK (cell 1 (mget t_l (D.int (cell 1 o_).toInt) [D.int 0, D.nil, D.bool false])).toRows o_2 (IntKind.i64.wrap (o_2 + 1)) then bif (cell 2 (mget t_l (D.int (cell 1 o_).toInt) [D.int 0, D.nil, D.bool false])).toBool then (k0 0 (mput t_l (D.int (cell 1 o_).toInt) [D.int (IntKind.i64.wrap ((cell 0 (mget t_l (D.int (cell 1 o_).toInt) [D.int 0, D.nil, D.bool false])).toInt + 1)), D.row (delAt (cell 1 (mget t_l (D.int (cell 1 o_).toInt) [D.int 0, D.nil, D.bool false])).toRows o_2.toNat (IntKind.i64.wrap (o_2 + 1)).toNat), D.bool !decide (o_2 = IntKind.i64.wrap (ofN (cell 1 (mget t_l (D.int (cell 1 o_).toInt) [D.int 0, D.nil, D.bool false])).toRows.length - 1))])) else (k0 0 (mput t_l (D.int (cell 1 o_).toInt) [D.int (IntKind.i64.wrap ((cell 0 (mget t_l (D.int (cell 1 o_).toInt) [D.int 0, D.nil, D.bool false])).toInt + 1)), D.row (delAt (cell 1 (mget t_l (D.int (cell 1 o_).toInt) [D.int 0, D.nil, D.bool false])).toRows o_2.toNat (IntKind.i64.wrap (o_2 + 1)).toNat), D.bool false])) else none else bif delOK (cell 1 (mget t_l (D.int (cell 1 o_).toInt) [D.int 0, D.nil, D.bool false])).toRows o_2 (IntKind.i64.wrap (o_2 + 1)) then bif (cell 2 (mget t_l (D.int (cell 1 o_).toInt) [D.int 0, D.nil, D.bool false])).toBool then (k0 0 (mput t_l (D.int (cell 1 o_).toInt) [D.int (IntKind.i64.wrap ((cell 0 (mget t_l (D.int (cell 1 o_).toInt) [D.int 0, D.nil, D.bool false])).toInt + 1)), D.row (delAt (cell 1 (mget t_l (D.int (cell 1 o_).toInt) [D.int 0, D.nil, D.bool false])).toRows o_2.toNat (IntKind.i64.wrap (o_2 + 1)).toNat), D.bool !decide (o_2 = IntKind.i64.wrap (ofN (cell 1 (mget t_l (D.int (cell 1 o_).toInt) [D.int 0, D.nil, D.bool false])).toRows.length - 1))])) else (k0 0 (mput t_l (D.int (cell 1 o_).toInt) [D.int (IntKind.i64.wrap ((cell 0 (mget t_l (D.int (cell 1 o_).toInt) [D.int 0, D.nil, D.bool false])).toInt + 1)), D.row (delAt (cell 1 (mget t_l (D.int (cell 1 o_).toInt) [D.int 0, D.nil, D.bool false])).toRows o_2.toNat (IntKind.i64.wrap (o_2 + 1)).toNat), D.bool false])) else none else bif (cell 2 (mget t_l (D.int (cell 1 o_).toInt) [D.int 0, D.nil, D.bool false])).toBool then bif decide (IntKind.i64.wrap (ofN (cell 1 (mget t_l (D.int (cell 1 o_).toInt) [D.int 0, D.nil, D.bool false])).toRows.length - 1) < 2) then (k0 9 t_l) else bif delOK (cell 1 (mget t_l (D.int (cell 1 o_).toInt) [D.int 0, D.nil, D.bool false])).toRows o_2 (IntKind.i64.wrap (o_2 + 1)) then bif (cell 2 (mget t_l (D.int (cell 1 o_).toInt) [D.int 0, D.nil, D.bool false])).toBool then (k0 0 (mput t_l (D.int (cell 1 o_).toInt) [D.int (IntKind.i64.wrap ((cell 0 (mget t_l (D.int (cell 1 o_).toInt) [D.int 0, D.nil, D.bool false])).toInt + 1)), D.row (delAt (cell 1 (mget t_l (D.int (cell 1 o_).toInt) [D.int 0, D.nil, D.bool false])).toRows o_2.toNat (IntKind.i64.wrap (o_2 + 1)).toNat), D.bool true])) else (k0 0 (mput t_l (D.int (cell 1 o_).toInt) [D.int (IntKind.i64.wrap ((cell 0 (mget t_l (D.int (cell 1 o_).toInt) [D.int 0, D.nil, D.bool false])).toInt + 1)), D.row (delAt (cell 1 (mget t_l (D.int (cell 1 o_).toInt) [D.int 0, D.nil, D.bool false])).toRows o_2.toNat (IntKind.i64.wrap (o_2 + 1)).toNat), D.bool false])) else none else bif decide (ofN (cell 1 (mget t_l (D.int (cell 1 o_).toInt) [D.int 0, D.nil, D.bool false])).toRows.length < 2) then (k0 9 t_l) else bif delOK (cell 1 (mget t_l (D.int (cell 1 o_).toInt) [D.int 0, D.nil, D.bool false])).toRows o_2 (IntKind.i64.wrap (o_2 + 1)) then bif (cell 2 (mget t_l (D.int (cell 1 o_).toInt) [D.int 0, D.nil, D.bool false])).toBool then (k0 0 (mput t_l (D.int (cell 1 o_).toInt) [D.int (IntKind.i64.wrap ((cell 0 (mget t_l (D.int (cell 1 o_).toInt) [D.int 0, D.nil, D.bool false])).toInt + 1)), D.row (delAt (cell 1 (mget t_l (D.int (cell 1 o_).toInt) [D.int 0, D.nil, D.bool false])).toRows o_2.toNat (IntKind.i64.wrap (o_2 + 1)).toNat), D.bool true])) else (k0 0 (mput t_l (D.int (cell 1 o_).toInt) [D.int (IntKind.i64.wrap ((cell 0 (mget t_l (D.int (cell 1 o_).toInt) [D.int 0, D.nil, D.bool false])).toInt + 1)), D.row (delAt (cell 1 (mget t_l (D.int (cell 1 o_).toInt) [D.int 0, D.nil, D.bool false])).toRows o_2.toNat (IntKind.i64.wrap (o_2 + 1)).toNat), D.bool false])) else none else bif decide ((cell 0 o_).toInt = 2) then F41 fu (cell 3 o_).toInt fun o_3 => bif !o_3 then (k0 1 t_l) else F18 fu [D.int (cell 0 (mget t_l (D.int (cell 1 o_).toInt) [D.int 0, D.nil, D.bool false])).toInt, D.row (cell 1 (mget t_l (D.int (cell 1 o_).toInt) [D.int 0, D.nil, D.bool false])).toRows, D.bool (cell 2 (mget t_l (D.int (cell 1 o_).toInt) [D.int 0, D.nil, D.bool false])).toBool] (cell 3 o_).toInt fun o_4 => bif decide (0 ≤ o_4) then (k0 7 t_l) else bif (cell 2 (mget t_l (D.int (cell 1 o_).toInt) [D.int 0, D.nil, D.bool false])).toBool then (k0 9 t_l) else bif decide (7 ≤ ofN (cell 1 (mget t_l (D.int (cell 1 o_).toInt) [D.int 0, D.nil, D.bool false])).toRows.length) then (k0 9 t_l) else bif fits ((cell 1 (mget t_l (D.int (cell 1 o_).toInt) [D.int 0, D.nil, D.bool false])).toRows.length + 1) 8 then (k0 0 (mput t_l (D.int (cell 1 o_).toInt) [D.int (IntKind.i64.wrap ((cell 0 (mget t_l (D.int (cell 1 o_).toInt) [D.int 0, D.nil, D.bool false])).toInt + 1)), D.row ((cell 1 (mget t_l (D.int (cell 1 o_).toInt) [D.int 0, D.nil, D.bool false])).toRows ++ [[D.int (cell 3 o_).toInt]]), D.bool true])) else none else bif !(cell 2 (mget t_l (D.int (cell 1 o_).toInt) [D.int 0, D.nil, D.bool false])).toBool then (k0 9 t_l) else F18 fu [D.int (cell 0 (mget t_l (D.int (cell 1 o_).toInt) [D.int 0, D.nil, D.bool false])).toInt, D.row (cell 1 (mget t_l (D.int (cell 1 o_).toInt) [D.int 0, D.nil, D.bool false])).toRows, D.bool (cell 2 (mget t_l (D.int (cell 1 o_).toInt) [D.int 0, D.nil, D.bool false])).toBool] (cell 3 o_).toInt fun o_5 => bif !decide (o_5 = IntKind.i64.wrap (ofN (cell 1 (mget t_l (D.int (cell 1 o_).toInt) [D.int 0, D.nil, D.bool false])).toRows.length - 1)) then (k0 9 t_l) else (k0 0 (mput t_l (D.int (cell 1 o_).toInt) [D.int (cell 0 (mget t_l (D.int (cell 1 o_).toInt) [D.int 0, D.nil, D.bool false])).toInt, D.row (cell 1 (mget t_l (D.int (cell 1 o_).toInt) [D.int 0, D.nil, D.bool false])).toRows, D.bool false])) else none

noncomputable def F14 {R : Type} (fu : Nat) (o_ : List D) (t_l : List (D × List D)) (k0 : Int → (List (D × List D)) → Option R) : Option R := shut (@Fb14 R) fu o_ t_l k0
theorem F14_eq {R : Type} (fu : Nat) (o_ : List D) (t_l : List (D × List D)) (k0 : Int → (List (D × List D)) → Option R) : F14 fu o_ t_l k0 = Fb14 fu o_ t_l k0 := by unfold F14; rw [shut_eq]

noncomputable def pc14 (fu : Nat) : Nat → Option ToldP := fun _ => none
noncomputable def t14 (fu : Nat) : ToldF := fun _ args s K => match args, s with
  | [.ptr 0 0, .agg [.int .i64 q, .int .i64 q1, .int .i64 q2, .int .i64 q3, .fz zq0 q4 false]], [.obj [.map 1], .map (.int .i64) true zq1 t_l] => (match FT.sames zq0 ft0 with | true => (match FT.sames zq1 ft2 with | true => F14 fu [D.int q, D.int q1, D.int q2, D.int q3, D.row q4] t_l (fun o_ o_1 => K (.int .i64 o_) [.obj [.map 1], .map (.int .i64) true ft2 o_1]) | false => none) | false => none)
  | _, _ => none

theorem e14 (R : Type) (K : UV → USt → Option R) (fu : Nat) (q : Int) (q1 : Int) (q2 : Int) (q3 : Int) (q4 : List (List D)) (t_l : List (D × List D)) :
    F14 fu [D.int q, D.int q1, D.int q2, D.int q3, D.row q4] t_l (fun o_ o_1 => K (.int .i64 o_) [.obj [.map 1], .map (.int .i64) true ft2 o_1]) = ufun Tryd.prog ⟨(tb18 fu), pc14 fu⟩ 300 14 [.ptr 0 0, .agg [.int .i64 q, .int .i64 q1, .int .i64 q2, .int .i64 q3, .fz ft0 q4 false]] [.obj [.map 1], .map (.int .i64) true ft2 t_l] (funK 2 [.gc] K) := (F14_eq fu _ _ _).trans (by kernel_rfl)

theorem s14 (fu : Nat) : Tells Tryd.prog 14 (t14 fu) := by
  refine ufun_sound (T := ⟨(tb18 fu), pc14 fu⟩) (m := 2) (gout := [.gc]) (k := 300) (tb18_sound fu) (fun fn body hf hb => ?_) (fun R args s K r h => ?_) (fun R args s K r h => ?_)
  · have hc : body = code14 := by
      have h1 : Tryd.prog.funcs[14]? = some Tryd.f14 := rfl
      rw [h1] at hf; cases hf
      have h2 : Tryd.f14.body = some code14 := rfl
      rw [h2] at hb; cases hb; rfl
    subst hc
    exact SoundPc.none _ _ _
  · unfold t14 at h; split at h
    · rfl
    · cases h
  · unfold t14 at h; split at h
    case h_2 => cases h
    split at h
    case h_2 => cases h
    rename_i hq
    have hq := FT.sames_eq _ _ hq
    subst hq
    split at h
    case h_2 => cases h
    rename_i hq
    have hq := FT.sames_eq _ _ hq
    subst hq
    exact (e14 R K fu _ _ _ _ _ _).symm.trans h

noncomputable def tb14 (fu : Nat) : FuncId → Option (Bool × ToldF) := fun f => match Nat.beq f 14 with
  | true => some (false, ghG [.fzP 1 [4] ft0, .gc, .gc] (t14 fu))
  | false => (tb18 fu) f
theorem tb14_sound (fu : Nat) : SoundF' Tryd.prog (tb14 fu) := by
  intro f own told h
  unfold tb14 at h
  split at h
  · rename_i hb
    cases h
    have := Nat.eq_of_beq_eq_true hb
    subst this
    exact ghG_sound (s14 fu)
  · exact (tb18_sound fu) f own told h

end Go.Proofs.YtlakjegifgonbaaDoor.V

/- Printed by ugen: (daisychain/master.Config).own -/
namespace Go.Proofs.YtlakjegifgonbaaDoor.V
set_option maxRecDepth 100000
set_option maxHeartbeats 4000000


noncomputable def code30 : Code := match Tryd.f30.body with | some c => c | none => .skip

noncomputable def Fb30 {R : Type} (fu : Nat) (c : List D) (k0 : (List D) → Option R) : Option R :=
  bif fits (cell 1 c).toRows.length 8 then (k0 c) else none

noncomputable def F30 {R : Type} (fu : Nat) (c : List D) (k0 : (List D) → Option R) : Option R := shut (@Fb30 R) fu c k0
theorem F30_eq {R : Type} (fu : Nat) (c : List D) (k0 : (List D) → Option R) : F30 fu c k0 = Fb30 fu c k0 := by unfold F30; rw [shut_eq]

noncomputable def pc30 (fu : Nat) : Nat → Option ToldP := fun _ => none
noncomputable def t30 (fu : Nat) : ToldF := fun _ args s K => match args, s with
  | [.agg [.int .i64 q, .fz zq0 q1 false, .bool q2]], [] => (match FT.sames zq0 ft0 with | true => F30 fu [D.int q, D.row q1, D.bool q2] (fun o_ => K (.agg (ofDs 0 ft2 o_)) []) | false => none)
  | _, _ => none

theorem e30 (R : Type) (K : UV → USt → Option R) (fu : Nat) (q : Int) (q1 : List (List D)) (q2 : Bool) :
    F30 fu [D.int q, D.row q1, D.bool q2] (fun o_ => K (.agg (ofDs 0 ft2 o_)) []) = ufun Tryd.prog ⟨(tb14 fu), pc30 fu⟩ 300 30 [.agg [.int .i64 q, .fz ft0 q1 false, .bool q2]] [] (funK 0 [.fzP 0 [1] ft0, .gc] K) := (F30_eq fu _ _).trans (by kernel_rfl)

theorem s30 (fu : Nat) : Tells Tryd.prog 30 (t30 fu) := by
  refine ufun_sound (T := ⟨(tb14 fu), pc30 fu⟩) (m := 0) (gout := [.fzP 0 [1] ft0, .gc]) (k := 300) (tb14_sound fu) (fun fn body hf hb => ?_) (fun R args s K r h => ?_) (fun R args s K r h => ?_)
  · have hc : body = code30 := by
      have h1 : Tryd.prog.funcs[30]? = some Tryd.f30 := rfl
      rw [h1] at hf; cases hf
      have h2 : Tryd.f30.body = some code30 := rfl
      rw [h2] at hb; cases hb; rfl
    subst hc
    exact SoundPc.none _ _ _
  · unfold t30 at h; split at h
    · rfl
    · cases h
  · unfold t30 at h; split at h
    case h_2 => cases h
    split at h
    case h_2 => cases h
    rename_i hq
    have hq := FT.sames_eq _ _ hq
    subst hq
    exact (e30 R K fu _ _ _).symm.trans h

noncomputable def tb30 (fu : Nat) : FuncId → Option (Bool × ToldF) := fun f => match Nat.beq f 30 with
  | true => some (false, ghG [.fzP 0 [1] ft0] (t30 fu))
  | false => (tb14 fu) f
theorem tb30_sound (fu : Nat) : SoundF' Tryd.prog (tb30 fu) := by
  intro f own told h
  unfold tb30 at h
  split at h
  · rename_i hb
    cases h
    have := Nat.eq_of_beq_eq_true hb
    subst this
    exact ghG_sound (s30 fu)
  · exact (tb14_sound fu) f own told h

end Go.Proofs.YtlakjegifgonbaaDoor.V

/- Printed by ugen: (*daisychain/master.Table).Config -/
namespace Go.Proofs.YtlakjegifgonbaaDoor.V
set_option maxRecDepth 100000
set_option maxHeartbeats 4000000


noncomputable def code16 : Code := match Tryd.f16.body with | some c => c | none => .skip

noncomputable def Fb16 {R : Type} (fu : Nat) (shard : Int) (t_l : List (D × List D)) (k0 : (List D) → Bool → Option R) : Option R :=
  F30 fu [D.int (cell 0 (mget t_l (D.int shard) [D.int 0, D.nil, D.bool false])).toInt, D.row (cell 1 (mget t_l (D.int shard) [D.int 0, D.nil, D.bool false])).toRows, D.bool (cell 2 (mget t_l (D.int shard) [D.int 0, D.nil, D.bool false])).toBool] fun o_0 => (k0 o_0 (mhas t_l (D.int shard)))

noncomputable def F16 {R : Type} (fu : Nat) (shard : Int) (t_l : List (D × List D)) (k0 : (List D) → Bool → Option R) : Option R := shut (@Fb16 R) fu shard t_l k0
theorem F16_eq {R : Type} (fu : Nat) (shard : Int) (t_l : List (D × List D)) (k0 : (List D) → Bool → Option R) : F16 fu shard t_l k0 = Fb16 fu shard t_l k0 := by unfold F16; rw [shut_eq]

noncomputable def pc16 (fu : Nat) : Nat → Option ToldP := fun _ => none
noncomputable def t16 (fu : Nat) : ToldF := fun _ args s K => match args, s with
  | [.ptr 0 0, .int .i64 shard], [.obj [.map 1], .map (.int .i64) true zq0 t_l] => (match FT.sames zq0 ft2 with | true => F16 fu shard t_l (fun o_ o_1 => K (.tuple [.agg (ofDs 0 ft2 o_), .bool o_1]) [.obj [.map 1], .map (.int .i64) true ft2 (t_l)]) | false => none)
  | _, _ => none

theorem e16 (R : Type) (K : UV → USt → Option R) (fu : Nat) (shard : Int) (t_l : List (D × List D)) :
    F16 fu shard t_l (fun o_ o_1 => K (.tuple [.agg (ofDs 0 ft2 o_), .bool o_1]) [.obj [.map 1], .map (.int .i64) true ft2 (t_l)]) = ufun Tryd.prog ⟨(tb30 fu), pc16 fu⟩ 300 16 [.ptr 0 0, .int .i64 shard] [.obj [.map 1], .map (.int .i64) true ft2 t_l] (funK 2 [.fzP 0 [0, 1] ft0, .gc] K) := (F16_eq fu _ _ _).trans (by kernel_rfl)

theorem s16 (fu : Nat) : Tells Tryd.prog 16 (t16 fu) := by
  refine ufun_sound (T := ⟨(tb30 fu), pc16 fu⟩) (m := 2) (gout := [.fzP 0 [0, 1] ft0, .gc]) (k := 300) (tb30_sound fu) (fun fn body hf hb => ?_) (fun R args s K r h => ?_) (fun R args s K r h => ?_)
  · have hc : body = code16 := by
      have h1 : Tryd.prog.funcs[16]? = some Tryd.f16 := rfl
      rw [h1] at hf; cases hf
      have h2 : Tryd.f16.body = some code16 := rfl
      rw [h2] at hb; cases hb; rfl
    subst hc
    exact SoundPc.none _ _ _
  · unfold t16 at h; split at h
    · rfl
    · cases h
  · unfold t16 at h; split at h
    case h_2 => cases h
    split at h
    case h_2 => cases h
    rename_i hq
    have hq := FT.sames_eq _ _ hq
    subst hq
    exact (e16 R K fu _ _).symm.trans h

noncomputable def tb16 (fu : Nat) : FuncId → Option (Bool × ToldF) := fun f => match Nat.beq f 16 with
  | true => some (false, ghG [.gc, .gc] (t16 fu))
  | false => (tb30 fu) f
theorem tb16_sound (fu : Nat) : SoundF' Tryd.prog (tb16 fu) := by
  intro f own told h
  unfold tb16 at h
  split at h
  · rename_i hb
    cases h
    have := Nat.eq_of_beq_eq_true hb
    subst this
    exact ghG_sound (s16 fu)
  · exact (tb30_sound fu) f own told h

end Go.Proofs.YtlakjegifgonbaaDoor.V

/- Printed by ugen: (daisychain/master.Config).beside -/
namespace Go.Proofs.YtlakjegifgonbaaDoor.V
set_option maxRecDepth 100000
set_option maxHeartbeats 4000000


noncomputable def code37 : Code := match Tryd.f37.body with | some c => c | none => .skip

noncomputable def Fb37 {R : Type} (fu : Nat) (c : List D) (node : Int) (by_ : Int) (k0 : Int → Option R) : Option R :=
  F18 fu [D.int (cell 0 c).toInt, D.row (cell 1 c).toRows, D.bool (cell 2 c).toBool] node fun o_0 => bif decide (o_0 < 0) then (k0 (-1)) else bif decide (IntKind.i64.wrap (o_0 + by_) < 0) then (k0 (-1)) else bif decide (ofN (cell 1 c).toRows.length ≤ IntKind.i64.wrap (o_0 + by_)) then (k0 (-1)) else bif within (IntKind.i64.wrap (o_0 + by_)) (cell 1 c).toRows.length then (k0 ((cell 0 (elem (IntKind.i64.wrap (o_0 + by_)).toNat (cell 1 c).toRows)).toInt)) else none

noncomputable def F37 {R : Type} (fu : Nat) (c : List D) (node : Int) (by_ : Int) (k0 : Int → Option R) : Option R := shut (@Fb37 R) fu c node by_ k0
theorem F37_eq {R : Type} (fu : Nat) (c : List D) (node : Int) (by_ : Int) (k0 : Int → Option R) : F37 fu c node by_ k0 = Fb37 fu c node by_ k0 := by unfold F37; rw [shut_eq]

noncomputable def pc37 (fu : Nat) : Nat → Option ToldP := fun _ => none
noncomputable def t37 (fu : Nat) : ToldF := fun _ args s K => match args, s with
  | [.agg [.int .i64 q, .fz zq0 q1 false, .bool q2], .int .i64 node, .int .i64 by_], [] => (match FT.sames zq0 ft0 with | true => F37 fu [D.int q, D.row q1, D.bool q2] node by_ (fun o_ => K (.int .i64 o_) []) | false => none)
  | _, _ => none

theorem e37 (R : Type) (K : UV → USt → Option R) (fu : Nat) (q : Int) (q1 : List (List D)) (q2 : Bool) (node : Int) (by_ : Int) :
    F37 fu [D.int q, D.row q1, D.bool q2] node by_ (fun o_ => K (.int .i64 o_) []) = ufun Tryd.prog ⟨(tb16 fu), pc37 fu⟩ 300 37 [.agg [.int .i64 q, .fz ft0 q1 false, .bool q2], .int .i64 node, .int .i64 by_] [] (funK 0 [.gc] K) := (F37_eq fu _ _ _ _).trans (by kernel_rfl)

theorem s37 (fu : Nat) : Tells Tryd.prog 37 (t37 fu) := by
  refine ufun_sound (T := ⟨(tb16 fu), pc37 fu⟩) (m := 0) (gout := [.gc]) (k := 300) (tb16_sound fu) (fun fn body hf hb => ?_) (fun R args s K r h => ?_) (fun R args s K r h => ?_)
  · have hc : body = code37 := by
      have h1 : Tryd.prog.funcs[37]? = some Tryd.f37 := rfl
      rw [h1] at hf; cases hf
      have h2 : Tryd.f37.body = some code37 := rfl
      rw [h2] at hb; cases hb; rfl
    subst hc
    exact SoundPc.none _ _ _
  · unfold t37 at h; split at h
    · rfl
    · cases h
  · unfold t37 at h; split at h
    case h_2 => cases h
    split at h
    case h_2 => cases h
    rename_i hq
    have hq := FT.sames_eq _ _ hq
    subst hq
    exact (e37 R K fu _ _ _ _ _).symm.trans h

noncomputable def tb37 (fu : Nat) : FuncId → Option (Bool × ToldF) := fun f => match Nat.beq f 37 with
  | true => some (false, ghG [.fzP 0 [1] ft0] (t37 fu))
  | false => (tb16 fu) f
theorem tb37_sound (fu : Nat) : SoundF' Tryd.prog (tb37 fu) := by
  intro f own told h
  unfold tb37 at h
  split at h
  · rename_i hb
    cases h
    have := Nat.eq_of_beq_eq_true hb
    subst this
    exact ghG_sound (s37 fu)
  · exact (tb16_sound fu) f own told h

end Go.Proofs.YtlakjegifgonbaaDoor.V

/- Printed by ugen: (daisychain/master.Config).Next -/
namespace Go.Proofs.YtlakjegifgonbaaDoor.V
set_option maxRecDepth 100000
set_option maxHeartbeats 4000000


noncomputable def code22 : Code := match Tryd.f22.body with | some c => c | none => .skip

noncomputable def Fb22 {R : Type} (fu : Nat) (c : List D) (node : Int) (k0 : Int → Option R) : Option R :=
  F37 fu [D.int (cell 0 c).toInt, D.row (cell 1 c).toRows, D.bool (cell 2 c).toBool] node 1 fun o_0 => (k0 o_0)

noncomputable def F22 {R : Type} (fu : Nat) (c : List D) (node : Int) (k0 : Int → Option R) : Option R := shut (@Fb22 R) fu c node k0
theorem F22_eq {R : Type} (fu : Nat) (c : List D) (node : Int) (k0 : Int → Option R) : F22 fu c node k0 = Fb22 fu c node k0 := by unfold F22; rw [shut_eq]

noncomputable def pc22 (fu : Nat) : Nat → Option ToldP := fun _ => none
noncomputable def t22 (fu : Nat) : ToldF := fun _ args s K => match args, s with
  | [.agg [.int .i64 q, .fz zq0 q1 false, .bool q2], .int .i64 node], [] => (match FT.sames zq0 ft0 with | true => F22 fu [D.int q, D.row q1, D.bool q2] node (fun o_ => K (.int .i64 o_) []) | false => none)
  | _, _ => none

theorem e22 (R : Type) (K : UV → USt → Option R) (fu : Nat) (q : Int) (q1 : List (List D)) (q2 : Bool) (node : Int) :
    F22 fu [D.int q, D.row q1, D.bool q2] node (fun o_ => K (.int .i64 o_) []) = ufun Tryd.prog ⟨(tb37 fu), pc22 fu⟩ 300 22 [.agg [.int .i64 q, .fz ft0 q1 false, .bool q2], .int .i64 node] [] (funK 0 [.gc] K) := (F22_eq fu _ _ _).trans (by kernel_rfl)

theorem s22 (fu : Nat) : Tells Tryd.prog 22 (t22 fu) := by
  refine ufun_sound (T := ⟨(tb37 fu), pc22 fu⟩) (m := 0) (gout := [.gc]) (k := 300) (tb37_sound fu) (fun fn body hf hb => ?_) (fun R args s K r h => ?_) (fun R args s K r h => ?_)
  · have hc : body = code22 := by
      have h1 : Tryd.prog.funcs[22]? = some Tryd.f22 := rfl
      rw [h1] at hf; cases hf
      have h2 : Tryd.f22.body = some code22 := rfl
      rw [h2] at hb; cases hb; rfl
    subst hc
    exact SoundPc.none _ _ _
  · unfold t22 at h; split at h
    · rfl
    · cases h
  · unfold t22 at h; split at h
    case h_2 => cases h
    split at h
    case h_2 => cases h
    rename_i hq
    have hq := FT.sames_eq _ _ hq
    subst hq
    exact (e22 R K fu _ _ _ _).symm.trans h

noncomputable def tb22 (fu : Nat) : FuncId → Option (Bool × ToldF) := fun f => match Nat.beq f 22 with
  | true => some (false, ghG [.fzP 0 [1] ft0] (t22 fu))
  | false => (tb37 fu) f
theorem tb22_sound (fu : Nat) : SoundF' Tryd.prog (tb22 fu) := by
  intro f own told h
  unfold tb22 at h
  split at h
  · rename_i hb
    cases h
    have := Nat.eq_of_beq_eq_true hb
    subst this
    exact ghG_sound (s22 fu)
  · exact (tb37_sound fu) f own told h

end Go.Proofs.YtlakjegifgonbaaDoor.V

/- Printed by ugen: (daisychain/master.Config).Before -/
namespace Go.Proofs.YtlakjegifgonbaaDoor.V
set_option maxRecDepth 100000
set_option maxHeartbeats 4000000


noncomputable def code23 : Code := match Tryd.f23.body with | some c => c | none => .skip

noncomputable def Fb23 {R : Type} (fu : Nat) (c : List D) (node : Int) (k0 : Int → Option R) : Option R :=
  F37 fu [D.int (cell 0 c).toInt, D.row (cell 1 c).toRows, D.bool (cell 2 c).toBool] node (-1) fun o_0 => (k0 o_0)

noncomputable def F23 {R : Type} (fu : Nat) (c : List D) (node : Int) (k0 : Int → Option R) : Option R := shut (@Fb23 R) fu c node k0
theorem F23_eq {R : Type} (fu : Nat) (c : List D) (node : Int) (k0 : Int → Option R) : F23 fu c node k0 = Fb23 fu c node k0 := by unfold F23; rw [shut_eq]

noncomputable def pc23 (fu : Nat) : Nat → Option ToldP := fun _ => none
noncomputable def t23 (fu : Nat) : ToldF := fun _ args s K => match args, s with
  | [.agg [.int .i64 q, .fz zq0 q1 false, .bool q2], .int .i64 node], [] => (match FT.sames zq0 ft0 with | true => F23 fu [D.int q, D.row q1, D.bool q2] node (fun o_ => K (.int .i64 o_) []) | false => none)
  | _, _ => none

theorem e23 (R : Type) (K : UV → USt → Option R) (fu : Nat) (q : Int) (q1 : List (List D)) (q2 : Bool) (node : Int) :
    F23 fu [D.int q, D.row q1, D.bool q2] node (fun o_ => K (.int .i64 o_) []) = ufun Tryd.prog ⟨(tb22 fu), pc23 fu⟩ 300 23 [.agg [.int .i64 q, .fz ft0 q1 false, .bool q2], .int .i64 node] [] (funK 0 [.gc] K) := (F23_eq fu _ _ _).trans (by kernel_rfl)

theorem s23 (fu : Nat) : Tells Tryd.prog 23 (t23 fu) := by
  refine ufun_sound (T := ⟨(tb22 fu), pc23 fu⟩) (m := 0) (gout := [.gc]) (k := 300) (tb22_sound fu) (fun fn body hf hb => ?_) (fun R args s K r h => ?_) (fun R args s K r h => ?_)
  · have hc : body = code23 := by
      have h1 : Tryd.prog.funcs[23]? = some Tryd.f23 := rfl
      rw [h1] at hf; cases hf
      have h2 : Tryd.f23.body = some code23 := rfl
      rw [h2] at hb; cases hb; rfl
    subst hc
    exact SoundPc.none _ _ _
  · unfold t23 at h; split at h
    · rfl
    · cases h
  · unfold t23 at h; split at h
    case h_2 => cases h
    split at h
    case h_2 => cases h
    rename_i hq
    have hq := FT.sames_eq _ _ hq
    subst hq
    exact (e23 R K fu _ _ _ _).symm.trans h

noncomputable def tb23 (fu : Nat) : FuncId → Option (Bool × ToldF) := fun f => match Nat.beq f 23 with
  | true => some (false, ghG [.fzP 0 [1] ft0] (t23 fu))
  | false => (tb22 fu) f
theorem tb23_sound (fu : Nat) : SoundF' Tryd.prog (tb23 fu) := by
  intro f own told h
  unfold tb23 at h
  split at h
  · rename_i hb
    cases h
    have := Nat.eq_of_beq_eq_true hb
    subst this
    exact ghG_sound (s23 fu)
  · exact (tb22_sound fu) f own told h

end Go.Proofs.YtlakjegifgonbaaDoor.V

/- master: rows of numbers, and where one is: plain laws. -/
namespace Go.Proofs.YtlakjegifgonbaaDoor.V
variable {R : Type}

/-- A row's numbers. -/
def vals (l : List (List D)) : List Int := l.map fun r => (cell 0 r).toInt

theorem vals_len (l : List (List D)) : (vals l).length = l.length := by simp [vals]
theorem vals_app (a b : List (List D)) : vals (a ++ b) = vals a ++ vals b := by simp [vals]
theorem vals_take (l : List (List D)) (n : Nat) : vals (l.take n) = (vals l).take n := by simp [vals, List.map_take]
theorem vals_drop (l : List (List D)) (n : Nat) : vals (l.drop n) = (vals l).drop n := by simp [vals, List.map_drop]

theorem elem_mid (p r : List (List D)) (x : List D) : elem p.length (p ++ x :: r) = x := by
  unfold elem
  rw [List.getD_eq_getElem?_getD, List.getElem?_append_right (Nat.le_refl _), Nat.sub_self]; rfl

theorem elem_get {l : List (List D)} {i : Nat} (h : i < l.length) : elem i l = l[i] := by
  unfold elem
  rw [List.getD_eq_getElem?_getD, List.getElem?_eq_getElem h]; rfl

theorem elem_val {l : List (List D)} {i : Nat} (h : i < (vals l).length) : (cell 0 (elem i l)).toInt = (vals l)[i] := by
  have h' : i < l.length := by rw [vals_len] at h; exact h
  rw [elem_get h']
  simp [vals]

theorem natlt {a b : Nat} (h : a < b) : decide ((a : Int) < ofN b) = true := decide_eq_true (by unfold ofN; omega)
theorem natge {a b : Nat} (h : b ≤ a) : decide ((a : Int) < ofN b) = false := decide_eq_false (by unfold ofN; omega)

/-- Where a number is. -/
def ix : List Int → Int → Option Nat
  | [], _ => none
  | x :: r, n => if x = n then some 0 else (ix r n).map (· + 1)

def atI (m : List Int) (n : Int) : Int := match ix m n with | some i => (i : Nat) | none => -1

theorem ix_some {m : List Int} {n : Int} {i : Nat} (h : ix m n = some i) : ∃ h : i < m.length, m[i] = n := by
  induction m generalizing i with
  | nil => simp [ix] at h
  | cons x r ih =>
    unfold ix at h
    split at h
    · rename_i e
      simp only [Option.some.injEq] at h; subst h
      exact ⟨by simp, e⟩
    · simp only [Option.map_eq_some_iff] at h
      obtain ⟨j, h1, rfl⟩ := h
      obtain ⟨h2, h3⟩ := ih h1
      exact ⟨by simp; omega, by simpa using h3⟩

theorem ix_none {m : List Int} {n : Int} : ix m n = none ↔ n ∉ m := by
  induction m with
  | nil => simp [ix]
  | cons x r ih =>
    unfold ix
    split
    · rename_i e; simp [e]
    · rename_i e
      simp only [Option.map_eq_none_iff, ih, List.mem_cons, not_or]
      exact ⟨fun h => ⟨fun e2 => e e2.symm, h⟩, fun h => h.2⟩

theorem atI_cases (m : List Int) (n : Int) : (atI m n = -1 ∧ ix m n = none ∧ n ∉ m) ∨ ∃ i : Nat, atI m n = (i : Int) ∧ ix m n = some i ∧ ∃ h : i < m.length, m[i] = n := by
  unfold atI
  cases h : ix m n with
  | none => exact .inl ⟨rfl, rfl, ix_none.1 h⟩
  | some i => exact .inr ⟨i, rfl, rfl, ix_some h⟩

theorem atI_lt (m : List Int) (n : Int) : -1 ≤ atI m n ∧ atI m n < m.length := by
  rcases atI_cases m n with ⟨h, _⟩ | ⟨i, h, _, h2, _⟩ <;> rw [h] <;> omega

theorem loop31 (fu : Nat) (v : Int) (k0 : Int → Option R) (k1 : Option R) : ∀ (r p : List (List D)) (n : Nat), r.length < n → (p ++ r).length ≤ 1000000 →
    F31_26 fu (p ++ r) v (ofN (p ++ r).length) n p.length k0 k1 = match ix (vals r) v with | some j => k0 ((p.length + j : Nat) : Int) | none => k1
  | [], p, n + 1, _, _ => by rw [F31_26, natge (by simp)]; rfl
  | x :: r, p, n + 1, hn, hl => by
    have h1 : p.length < (p ++ x :: r).length := by simp
    rw [F31_26, natlt h1, cond_true, within_of h1, cond_true, Int.toNat_natCast, elem_mid]
    show _ = match ix ((cell 0 x).toInt :: vals r) v with | some j => k0 ((p.length + j : Nat) : Int) | none => k1
    unfold ix
    by_cases e : (cell 0 x).toInt = v
    · rw [if_pos e, decide_eq_true e.symm]; rfl
    · rw [if_neg e, decide_eq_false (fun h => e h.symm), cond_false, wrap_succ (by omega)]
      have := loop31 fu v k0 k1 r (p ++ [x]) n (by simp at hn; omega) (by simpa using hl)
      rw [show p ++ [x] ++ r = p ++ x :: r by simp, show (p ++ [x]).length = p.length + 1 by simp] at this
      refine Eq.trans this ?_
      cases ix (vals r) v with
      | none => rfl
      | some j =>
        simp only [Option.map_some, List.length_cons, List.length_nil]
        congr 1; omega

theorem F31_ok {fu : Nat} {s : List (List D)} (hf : 1100 ≤ fu) (hs : s.length ≤ 1000) (v : Int) (k0 : Int → Option R) : F31 fu s v k0 = k0 (atI (vals s) v) := by
  rw [F31_eq, Fb31]
  have := loop31 fu v (fun o => k0 o) (k0 (-1)) s [] fu (by omega) (by simp; omega)
  refine Eq.trans this ?_
  unfold atI
  cases ix (vals s) v <;> simp

theorem loop21 (fu : Nat) (v : Int) (k0 : Int → Option R) (k1 : Option R) : ∀ (r p : List (List D)) (n : Nat), r.length < n → (p ++ r).length ≤ 1000000 →
    F21_26 fu (p ++ r) v n p.length k0 k1 = match ix (vals r) v with | some j => k0 ((p.length + j : Nat) : Int) | none => k1
  | [], p, n + 1, _, _ => by rw [F21_26, natge (by simp)]; rfl
  | x :: r, p, n + 1, hn, hl => by
    have h1 : p.length < (p ++ x :: r).length := by simp
    rw [F21_26, natlt h1, cond_true, within_of h1, cond_true, Int.toNat_natCast, elem_mid]
    show _ = match ix ((cell 0 x).toInt :: vals r) v with | some j => k0 ((p.length + j : Nat) : Int) | none => k1
    unfold ix
    by_cases e : (cell 0 x).toInt = v
    · rw [if_pos e, decide_eq_true e]; rfl
    · rw [if_neg e, decide_eq_false e, cond_false, wrap_succ (by omega)]
      have := loop21 fu v k0 k1 r (p ++ [x]) n (by simp at hn; omega) (by simpa using hl)
      rw [show p ++ [x] ++ r = p ++ x :: r by simp, show (p ++ [x]).length = p.length + 1 by simp] at this
      refine Eq.trans this ?_
      cases ix (vals r) v with
      | none => rfl
      | some j =>
        simp only [Option.map_some, List.length_cons, List.length_nil]
        congr 1; omega

theorem F21_ok {fu : Nat} {s : List (List D)} (hf : 1100 ≤ fu) (hs : s.length ≤ 1000) (v : Int) (k0 : Int → Option R) : F21 fu s v k0 = k0 (atI (vals s) v) := by
  rw [F21_eq, Fb21]
  have := loop21 fu v (fun o => k0 o) (k0 (-1)) s [] fu (by omega) (by simp; omega)
  refine Eq.trans this ?_
  unfold atI
  cases ix (vals s) v <;> simp

theorem F48_ok {fu : Nat} {s : List (List D)} (hf : 1100 ≤ fu) (hs : s.length ≤ 1000) (v : Int) (k0 : Bool → Option R) : F48 fu s v k0 = k0 (decide (v ∈ vals s)) := by
  rw [F48_eq, Fb48, F31_ok hf hs]
  rcases atI_cases (vals s) v with ⟨h, _, h2⟩ | ⟨i, h, _, h2, h3⟩
  · rw [h, decide_eq_false h2]; rfl
  · rw [h, decide_eq_true (by omega), decide_eq_true (by rw [← h3]; exact List.getElem_mem h2)]

theorem cfg1 (e : Int) (m : List (List D)) (j : Bool) : (cell 1 [D.int e, D.row m, D.bool j]).toRows = m := of_eq_true (eq_self _)
theorem cfg0 (e : Int) (m : List (List D)) (j : Bool) : (cell 0 [D.int e, D.row m, D.bool j]).toInt = e := of_eq_true (eq_self _)
theorem cfg2 (e : Int) (m : List (List D)) (j : Bool) : (cell 2 [D.int e, D.row m, D.bool j]).toBool = j := of_eq_true (eq_self _)
theorem one0 (e : Int) (r : List D) : (cell 0 (D.int e :: r)).toInt = e := of_eq_true (eq_self _)

theorem F18_ok {fu : Nat} {m : List (List D)} (hf : 1100 ≤ fu) (hs : m.length ≤ 1000) (e : Int) (j : Bool) (v : Int) (k0 : Int → Option R) : F18 fu [D.int e, D.row m, D.bool j] v k0 = k0 (atI (vals m) v) := by
  rw [F18_eq, Fb18, cfg1, F31_ok hf hs]

/-- The one so many places behind. -/
def besI (m : List Int) (n by_ : Int) : Int :=
  if atI m n < 0 then -1 else if atI m n + by_ < 0 then -1 else (m[(atI m n + by_).toNat]?).getD (-1)

theorem F37_ok {fu : Nat} {m : List (List D)} (hf : 1100 ≤ fu) (hs : m.length ≤ 1000) (e : Int) (j : Bool) (v by_ : Int) (hb : -1 ≤ by_ ∧ by_ ≤ 1) (k0 : Int → Option R) : F37 fu [D.int e, D.row m, D.bool j] v by_ k0 = k0 (besI (vals m) v by_) := by
  rw [F37_eq, Fb37, cfg0, cfg1, cfg2, F18_ok hf hs]
  unfold besI
  have hb2 := atI_lt (vals m) v
  rw [vals_len] at hb2
  rw [wrap_of (by omega) (by omega)]
  by_cases h1 : atI (vals m) v < 0
  · rw [if_pos h1, lt_true h1]; rfl
  · rw [if_neg h1, lt_false h1, cond_false]
    by_cases h2 : atI (vals m) v + by_ < 0
    · rw [if_pos h2, lt_true h2]; rfl
    · rw [if_neg h2, lt_false h2, cond_false]
      by_cases h3 : (m.length : Int) ≤ atI (vals m) v + by_
      · rw [show ofN m.length = (m.length : Int) from rfl, le_true h3, cond_true, List.getElem?_eq_none (by rw [vals_len]; omega)]; rfl
      · rw [show ofN m.length = (m.length : Int) from rfl, le_false h3, cond_false]
        have hlt : (atI (vals m) v + by_).toNat < (vals m).length := by rw [vals_len]; omega
        rw [within_int (by omega) (by omega), cond_true, elem_val hlt, List.getElem?_eq_getElem hlt]; rfl

theorem F22_ok {fu : Nat} {m : List (List D)} (hf : 1100 ≤ fu) (hs : m.length ≤ 1000) (e : Int) (j : Bool) (v : Int) (k0 : Int → Option R) : F22 fu [D.int e, D.row m, D.bool j] v k0 = k0 (besI (vals m) v 1) := by
  rw [F22_eq, Fb22, cfg0, cfg1, cfg2, F37_ok hf hs e j v 1 (by omega)]
theorem F23_ok {fu : Nat} {m : List (List D)} (hf : 1100 ≤ fu) (hs : m.length ≤ 1000) (e : Int) (j : Bool) (v : Int) (k0 : Int → Option R) : F23 fu [D.int e, D.row m, D.bool j] v k0 = k0 (besI (vals m) v (-1)) := by
  rw [F23_eq, Fb23, cfg0, cfg1, cfg2, F37_ok hf hs e j v (-1) (by omega)]

theorem F41_ok (fu : Nat) (n : Int) (k0 : Bool → Option R) : F41 fu n k0 = k0 (decide (0 ≤ n ∧ n < 100)) := by
  rw [F41_eq, Fb41]
  by_cases h : 0 ≤ n
  · rw [le_true h, cond_true]
    congr 1
    by_cases h2 : n < 100
    · rw [lt_true h2, decide_eq_true ⟨h, h2⟩]
    · rw [lt_false h2, decide_eq_false (fun e => h2 e.2)]
  · rw [le_false h, cond_false, decide_eq_false (fun e => h e.1)]

/-- May a row be a chain's? -/
def memOK (m : List Int) : Bool := decide (m.Nodup ∧ (∀ n ∈ m, 0 ≤ n ∧ n < 100) ∧ 1 ≤ m.length ∧ m.length ≤ 7)

end Go.Proofs.YtlakjegifgonbaaDoor.V

/- master: rows that may be a chain's, few orders, equal configurations, tables: plain laws. -/
namespace Go.Proofs.YtlakjegifgonbaaDoor.V
variable {R : Type}

theorem F11_ok (fu : Nat) (k : Option R) : F11 fu k = k := by rw [F11_eq, Fb11]

def inAll (m : List Int) : Prop := m.Nodup ∧ ∀ n ∈ m, 0 ≤ n ∧ n < 100
instance (m : List Int) : Decidable (inAll m) := by unfold inAll; exact inferInstance

theorem inAll_snoc {p : List Int} (h : inAll p) {x : Int} (h1 : 0 ≤ x ∧ x < 100) (h2 : x ∉ p) : inAll (p ++ [x]) := by
  refine ⟨List.nodup_append.2 ⟨h.1, by simp, fun a ha b hb => ?_⟩, fun n hn => ?_⟩
  · simp only [List.mem_singleton] at hb; subst hb
    intro e; exact h2 (e ▸ ha)
  · rcases List.mem_append.1 hn with hn | hn
    · exact h.2 n hn
    · simp only [List.mem_singleton] at hn; subst hn; exact h1

theorem loop38 (fu : Nat) (hf : 1100 ≤ fu) (l : List (List D)) (hl : l.length ≤ 1000) (k0 k1 : Option R) : ∀ (r p : List (List D)) (n : Nat), r.length < n → l = p ++ r → inAll (vals p) →
    F38_26 fu l l (ofN l.length) n p.length k0 k1 = bif decide (inAll (vals l)) then k1 else k0
  | [], p, n + 1, _, e, hp => by
    rw [List.append_nil] at e; subst e
    rw [F38_26, natge (Nat.le_refl _), decide_eq_true hp]; rfl
  | x :: r, p, n + 1, hn, e, hp => by
    have h1 : p.length < l.length := by rw [e]; simp
    have hx : elem p.length l = x := by rw [e]; exact elem_mid p r x
    have hin : (cell 0 x).toInt ∈ vals l := by rw [e, vals_app]; exact List.mem_append.2 (.inr (List.mem_cons_self))
    rw [F38_26, natlt h1, cond_true, within_of h1, cond_true, Int.toNat_natCast, hx, F41_ok]
    by_cases h2 : 0 ≤ (cell 0 x).toInt ∧ (cell 0 x).toInt < 100
    · rw [decide_eq_true h2, Bool.not_true, cond_false]
      have hu : (decide ((0 : Int) ≤ 0 ∧ (0 : Int) ≤ (p.length : Int)) && upTo (p.length : Int) l.length) = true := by
        rw [decide_eq_true ⟨Int.le_refl _, by omega⟩]; unfold upTo; rw [decide_eq_true ⟨by omega, by omega⟩]; rfl
      rw [hu, cond_true]
      have hpart : part l 0 p.length = p := by unfold part; rw [List.drop_zero, e, List.take_left]
      rw [hpart, F48_ok hf (by omega)]
      by_cases h3 : (cell 0 x).toInt ∈ vals p
      · rw [decide_eq_true h3, cond_true, decide_eq_false, cond_false]
        rintro ⟨hnd, _⟩
        rw [e, vals_app] at hnd
        have := (List.nodup_append.1 hnd).2.2 _ h3 _ (List.mem_cons_self : (cell 0 x).toInt ∈ vals (x :: r))
        exact this rfl
      · rw [decide_eq_false h3, cond_false, wrap_succ (by omega)]
        have := loop38 fu hf l hl k0 k1 r (p ++ [x]) n (by simp at hn; omega) (by rw [e]; simp) (by rw [vals_app]; exact inAll_snoc hp h2 h3)
        rwa [show (p ++ [x]).length = p.length + 1 by simp] at this
    · rw [decide_eq_false h2, Bool.not_false, cond_true, decide_eq_false (fun h => h2 (h.2 _ hin)), cond_false]

theorem memOK_eq (m : List Int) : memOK m = (decide (inAll m) && (decide (1 ≤ m.length) && decide (m.length ≤ 7))) := by
  unfold memOK inAll
  by_cases h1 : m.Nodup <;> by_cases h2 : ∀ n ∈ m, 0 ≤ n ∧ n < 100 <;> by_cases h3 : 1 ≤ m.length <;> by_cases h4 : m.length ≤ 7 <;> simp [h1, h2, h3, h4]

theorem F38_ok {fu : Nat} (hf : 1100 ≤ fu) {l : List (List D)} (hl : l.length ≤ 1000) (k0 : Bool → Option R) : F38 fu l k0 = k0 (memOK (vals l)) := by
  rw [F38_eq, Fb38]
  refine (loop38 fu hf l hl _ _ l [] fu (by omega) rfl ⟨List.nodup_nil, by intro n hn; cases hn⟩).trans ?_
  rw [memOK_eq, vals_len]
  cases decide (inAll (vals l)) with
  | false => rfl
  | true =>
    rw [cond_true, Bool.true_and, show ofN l.length = (l.length : Int) from rfl]
    by_cases h : 1 ≤ l.length
    · rw [le_true (show (1 : Int) ≤ (l.length : Int) by omega), cond_true, decide_eq_true h, Bool.true_and]
      congr 1
      by_cases h2 : l.length ≤ 7
      · rw [le_true (show (l.length : Int) ≤ 7 by omega), decide_eq_true h2]
      · rw [le_false (show ¬ (l.length : Int) ≤ 7 by omega), decide_eq_false h2]
    · rw [le_false (show ¬ (1 : Int) ≤ (l.length : Int) by omega), cond_false, decide_eq_false h]; rfl

theorem ix_first : ∀ (a b : List Int) (x : Int), x ∉ a → ix (a ++ x :: b) x = some a.length
  | [], b, x, _ => by simp [ix]
  | y :: a, b, x, h => by
    simp only [List.mem_cons, not_or] at h
    show (if y = x then some 0 else (ix (a ++ x :: b) x).map (· + 1)) = _
    rw [if_neg (fun e => h.1 e.symm), ix_first a b x h.2]; rfl

theorem ix_before : ∀ (a b : List Int) (x : Int), x ∈ a → ∃ i, ix (a ++ b) x = some i ∧ i < a.length
  | [], b, x, h => by cases h
  | y :: a, b, x, h => by
    show ∃ i, (if y = x then some 0 else (ix (a ++ b) x).map (· + 1)) = some i ∧ i < (y :: a).length
    by_cases e : y = x
    · rw [if_pos e]; exact ⟨0, rfl, by simp⟩
    · rw [if_neg e]
      obtain ⟨i, h1, h2⟩ := ix_before a b x (by rcases List.mem_cons.1 h with h | h; exact absurd h.symm e; exact h)
      exact ⟨i + 1, by rw [h1]; rfl, by simp; omega⟩

theorem loop24 (fu : Nat) (hf : 1100 ≤ fu) (l : List (List D)) (hl : l.length ≤ 1000) (k0 k1 : Option R) : ∀ (r p : List (List D)) (n : Nat), r.length < n → l = p ++ r → inAll (vals p) →
    F24_26 fu l n p.length k0 k1 = bif decide (inAll (vals l)) then k1 else k0
  | [], p, n + 1, _, e, hp => by
    rw [List.append_nil] at e; subst e
    rw [F24_26, natge (Nat.le_refl _), decide_eq_true hp]; rfl
  | x :: r, p, n + 1, hn, e, hp => by
    have h1 : p.length < l.length := by rw [e]; simp
    have hx : elem p.length l = x := by rw [e]; exact elem_mid p r x
    have hin : (cell 0 x).toInt ∈ vals l := by rw [e, vals_app]; exact List.mem_append.2 (.inr (List.mem_cons_self))
    rw [F24_26, natlt h1, cond_true, within_of h1, cond_true, Int.toNat_natCast, hx, cond_true, cond_true]
    by_cases h2 : (cell 0 x).toInt < 0
    · rw [lt_true h2, cond_true, decide_eq_false (fun h => by have := (h.2 _ hin).1; omega), cond_false]
    · rw [lt_false h2, cond_false]
      by_cases h3 : 99 < (cell 0 x).toInt
      · rw [lt_true h3, cond_true, decide_eq_false (fun h => by have := (h.2 _ hin).2; omega), cond_false]
      · rw [lt_false h3, cond_false, F21_ok hf (by omega)]
        by_cases h4 : (cell 0 x).toInt ∈ vals p
        · obtain ⟨i, q1, q2⟩ := ix_before (vals p) (vals (x :: r)) _ h4
          have hne : ¬ atI (vals l) (cell 0 x).toInt = (p.length : Int) := by
            unfold atI; rw [e, vals_app, q1]; rw [vals_len] at q2; show ¬ ((i : Int) = _); omega
          rw [decide_eq_false hne, Bool.not_false, cond_true, decide_eq_false, cond_false]
          rintro ⟨hnd, _⟩
          rw [e, vals_app] at hnd
          have := (List.nodup_append.1 hnd).2.2 _ h4 _ (List.mem_cons_self : (cell 0 x).toInt ∈ vals (x :: r))
          exact this rfl
        · have heq : atI (vals l) (cell 0 x).toInt = (p.length : Int) := by
            unfold atI; rw [e, vals_app]
            rw [show vals (x :: r) = (cell 0 x).toInt :: vals r from rfl, ix_first _ _ _ h4, vals_len]
          rw [decide_eq_true heq, Bool.not_true, cond_false, wrap_succ (by omega)]
          have := loop24 fu hf l hl k0 k1 r (p ++ [x]) n (by simp at hn; omega) (by rw [e]; simp) (by rw [vals_app]; exact inAll_snoc hp (x := (cell 0 x).toInt) ⟨Int.not_lt.1 h2, by omega⟩ h4)
          rwa [show (p ++ [x]).length = p.length + 1 by simp] at this

theorem F24_ok {fu : Nat} (hf : 1100 ≤ fu) {l : List (List D)} (hl : l.length ≤ 1000) (k0 : Bool → Option R) : F24 fu l k0 = k0 (memOK (vals l)) := by
  rw [F24_eq, Fb24]
  refine (loop24 fu hf l hl _ _ l [] fu (by omega) rfl ⟨List.nodup_nil, by intro n hn; cases hn⟩).trans ?_
  rw [memOK_eq, vals_len]
  cases decide (inAll (vals l)) with
  | false => rfl
  | true =>
    rw [cond_true, Bool.true_and, show ofN l.length = (l.length : Int) from rfl]
    by_cases h : 1 ≤ l.length
    · rw [lt_true (show (0 : Int) < (l.length : Int) by omega), cond_true, decide_eq_true h, Bool.true_and]
      congr 1
      by_cases h2 : l.length ≤ 7
      · rw [lt_true (show (l.length : Int) < 8 by omega), decide_eq_true h2]
      · rw [lt_false (show ¬ (l.length : Int) < 8 by omega), decide_eq_false h2]
    · rw [lt_false (show ¬ (0 : Int) < (l.length : Int) by omega), cond_false, decide_eq_false h]; rfl

/-- May orders be gone through? -/
def fewB (l : List (List D)) : Bool := decide (l.length ≤ 60 ∧ ∀ r ∈ l, (cell 4 r).toRows.length ≤ 20)

theorem loop9 (fu : Nat) (l : List (List D)) (k0 k1 : Option R) : ∀ (r p : List (List D)) (n : Nat), (61 - p.length) < n → l = p ++ r → p.length ≤ 61 → (∀ x ∈ p, (cell 4 x).toRows.length ≤ 20) →
    F9_26 fu l n p.length k0 k1 = k0 ∧ (¬ ∀ x ∈ l, (cell 4 x).toRows.length ≤ 20) ∨ F9_26 fu l n p.length k0 k1 = k1 ∧ (60 < l.length ∨ ∀ x ∈ l, (cell 4 x).toRows.length ≤ 20)
  | [], p, n + 1, _, e, hp, ha => by
    rw [List.append_nil] at e; subst e
    rw [F9_26, natge (Nat.le_refl _)]
    exact .inr ⟨rfl, .inr ha⟩
  | x :: r, p, n + 1, hn, e, hp, ha => by
    have h1 : p.length < l.length := by rw [e]; simp
    have hx : elem p.length l = x := by rw [e]; exact elem_mid p r x
    have hin : x ∈ l := by rw [e]; simp
    rw [F9_26, natlt h1, cond_true]
    by_cases h2 : (p.length : Int) ≤ 60
    · rw [le_true h2, cond_true, within_of h1, cond_true, Int.toNat_natCast, hx]
      by_cases h3 : (20 : Int) < ofN (cell 4 x).toRows.length
      · rw [lt_true h3]
        refine .inl ⟨rfl, fun h => ?_⟩
        have := h x hin; unfold ofN at h3; omega
      · rw [lt_false h3, cond_false, wrap_succ (by omega)]
        have := loop9 fu l k0 k1 r (p ++ [x]) n (by simp; omega) (by rw [e]; simp) (by simp; omega) (fun y hy => by
          rcases List.mem_append.1 hy with hy | hy
          · exact ha y hy
          · simp only [List.mem_singleton] at hy; subst hy; unfold ofN at h3; omega)
        rwa [show (p ++ [x]).length = p.length + 1 by simp] at this
    · rw [le_false h2, cond_false]
      exact .inr ⟨rfl, .inl (by omega)⟩

theorem F9_ok {fu : Nat} (hf : 1100 ≤ fu) (l : List (List D)) (k0 : Bool → Option R) : F9 fu l k0 = k0 (fewB l) := by
  rw [F9_eq, Fb9]
  rcases loop9 fu l (k0 false) (k0 (decide (ofN l.length ≤ 60))) l [] fu (by simp; omega) rfl (by simp) (by intro x hx; cases hx) with ⟨h1, h2⟩ | ⟨h1, h2⟩
  · refine h1.trans ?_
    unfold fewB; rw [decide_eq_false (fun h => h2 h.2)]
  · refine h1.trans ?_
    unfold fewB ofN
    by_cases h : l.length ≤ 60
    · rw [decide_eq_true (show (l.length : Int) ≤ 60 by omega), decide_eq_true ⟨h, by rcases h2 with h2 | h2; omega; exact h2⟩]
    · rw [decide_eq_false (show ¬ (l.length : Int) ≤ 60 by omega), decide_eq_false (fun e => h e.1)]

theorem loop17 (fu : Nat) (a b : List (List D)) (hab : a.length = b.length) (hl : a.length ≤ 1000) (k0 k1 : Option R) : ∀ (r p : List (List D)) (q : List (List D)) (s : List (List D)) (n : Nat), r.length < n → a = p ++ r → b = q ++ s → p.length = q.length → vals p = vals q →
    F17_58 fu (ofN a.length) a b n p.length k0 k1 = bif decide (vals a = vals b) then k1 else k0
  | [], p, q, s, n + 1, _, e, e2, hpq, hv => by
    have hs : s = [] := by
      have : s.length = 0 := by rw [e, e2] at hab; simp at hab; omega
      exact List.length_eq_zero_iff.1 this
    rw [List.append_nil] at e; subst e
    rw [hs, List.append_nil] at e2; subst e2
    rw [F17_58, natge (Nat.le_refl _), decide_eq_true hv]; rfl
  | x :: r, p, q, [], n + 1, _, e, e2, hpq, _ => by rw [e, e2] at hab; simp at hab; omega
  | x :: r, p, q, y :: s, n + 1, hn, e, e2, hpq, hv => by
    have h1 : p.length < a.length := by rw [e]; simp
    have hx : elem p.length a = x := by rw [e]; exact elem_mid p r x
    have hy : elem p.length b = y := by rw [e2, hpq]; exact elem_mid q s y
    rw [F17_58, natlt h1, cond_true, within_of h1, cond_true, within_of (by omega), cond_true, Int.toNat_natCast, hx, hy]
    by_cases h2 : (cell 0 x).toInt = (cell 0 y).toInt
    · rw [eq_true h2, Bool.not_true, cond_false, wrap_succ (by omega)]
      have := loop17 fu a b hab hl k0 k1 r (p ++ [x]) (q ++ [y]) s n (by simp at hn; omega) (by rw [e]; simp) (by rw [e2]; simp) (by simp; omega) (by rw [vals_app, vals_app, hv]; show _ ++ [(cell 0 x).toInt] = _ ++ [(cell 0 y).toInt]; rw [h2])
      rwa [show (p ++ [x]).length = p.length + 1 by simp] at this
    · rw [eq_false h2, Bool.not_false, cond_true, decide_eq_false, cond_false]
      intro hh
      rw [e, e2, vals_app, vals_app] at hh
      have h3 := List.append_inj hh (by rw [vals_len, vals_len]; exact hpq)
      have : (cell 0 x).toInt :: vals r = (cell 0 y).toInt :: vals s := h3.2
      exact h2 (List.cons.inj this).1

theorem F17_ok {fu : Nat} (hf : 1100 ≤ fu) {m m' : List (List D)} (hm : m.length ≤ 1000) (e e' : Int) (j j' : Bool) (k0 : Bool → Option R) :
    F17 fu [D.int e, D.row m, D.bool j] [D.int e', D.row m', D.bool j'] k0 = k0 (decide (e = e') && ((j == j') && decide (vals m = vals m'))) := by
  rw [F17_eq, Fb17, cfg0, cfg0, cfg1, cfg1, cfg2, cfg2]
  by_cases h1 : e = e'
  · rw [eq_true h1, Bool.not_true, cond_false, Bool.true_and]
    by_cases h2 : j = j'
    · subst h2
      rw [beq_self_eq_true, Bool.not_true, cond_false, Bool.true_and]
      unfold ofN
      by_cases h3 : m.length = m'.length
      · rw [eq_true (show (m.length : Int) = (m'.length : Int) by omega), Bool.not_true, cond_false]
        refine (loop17 fu m m' h3 hm _ _ m [] [] m' fu (by omega) rfl rfl rfl rfl).trans ?_
        cases decide (vals m = vals m') <;> rfl
      · rw [eq_false (show ¬ (m.length : Int) = (m'.length : Int) by omega), Bool.not_false, cond_true, decide_eq_false]
        intro h; have := congrArg List.length h; rw [vals_len, vals_len] at this; exact h3 this
    · have h4 : (j == j') = false := by cases j <;> cases j' <;> simp_all
      rw [h4, Bool.not_false, cond_true, Bool.false_and]
  · rw [eq_false h1, Bool.not_false, cond_true, Bool.false_and]
end Go.Proofs.YtlakjegifgonbaaDoor.V

/- master: a table, and what an order does to it: plain laws. -/
namespace Go.Proofs.YtlakjegifgonbaaDoor.V
variable {R : Type}

structure Cf where
  e : Int
  m : List (List D)
  j : Bool

def Cf.d (c : Cf) : List D := [.int c.e, .row c.m, .bool c.j]
abbrev Tb := Nat → Option Cf
def upd (T : Tb) (k : Nat) (c : Cf) : Tb := fun q => if q = k then some c else T q
abbrev zd : List D := [D.int 0, D.nil, D.bool false]

/-- A map is a table. -/
structure Rep (es : List (D × List D)) (T : Tb) : Prop where
  nd : (es.map (·.1)).Nodup
  mem : ∀ p, p ∈ es ↔ ∃ (k : Nat) (c : Cf), T k = some c ∧ p = (D.int k, c.d)

structure CfOK (c : Cf) (i : Nat) : Prop where
  e0 : 1 ≤ c.e
  e1 : c.e ≤ i + 1
  m : inAll (vals c.m)
  l0 : 1 ≤ c.m.length
  l1 : c.m.length ≤ 7
  j : c.j = true → 2 ≤ c.m.length

structure Good (T : Tb) (i : Nat) : Prop where
  lt : ∀ k c, T k = some c → k < 10
  ok : ∀ k c, T k = some c → CfOK c i

theorem Rep.nil : Rep [] (fun _ => none) := by
  refine ⟨List.nodup_nil, fun p => ⟨fun h => ?_, fun h => ?_⟩⟩
  · cases h
  · obtain ⟨k, c, h, _⟩ := h; cases h
theorem Good.nil : Good (fun _ => none) 0 := by
  refine ⟨fun k c h => ?_, fun k c h => ?_⟩ <;> cases h
theorem Good.up {T : Tb} {i j : Nat} (h : Good T i) (hij : i ≤ j) : Good T j :=
  ⟨h.lt, fun k c hk => ⟨(h.ok k c hk).e0, by have := (h.ok k c hk).e1; omega, (h.ok k c hk).m, (h.ok k c hk).l0, (h.ok k c hk).l1, (h.ok k c hk).j⟩⟩

theorem eqKey_int (a b : Int) : D.eqKey (.int a) (.int b) = decide (a = b) := by
  by_cases h : a = b
  · subst h; simp [D.eqKey]
  · simp [D.eqKey, h]

theorem mget_at {es : List (D × List D)} (hk : ∀ p ∈ es, ∃ n : Int, p.1 = .int n) (hnd : (es.map (·.1)).Nodup) {n : Int} {v : List D} (h : (D.int n, v) ∈ es) (z : List D) : mget es (.int n) z = v ∧ mhas es (.int n) = true := by
  induction es with
  | nil => cases h
  | cons p r ih =>
    obtain ⟨a, w⟩ := p
    obtain ⟨m, hm⟩ := hk _ List.mem_cons_self
    simp only at hm; subst hm
    rw [List.map_cons, List.nodup_cons] at hnd
    by_cases e : n = m
    · subst e
      have hw : v = w := by
        rcases List.mem_cons.1 h with h | h
        · exact (Prod.mk.inj h).2
        · exact absurd (List.mem_map.2 ⟨_, h, rfl⟩) hnd.1
      subst hw
      simp only [mget, mhas, eqKey_int, decide_true, cond_true, and_self]
    · have h2 : (D.int n, v) ∈ r := by
        rcases List.mem_cons.1 h with h | h
        · have := (Prod.mk.inj h).1; injection this with this; exact absurd this e
        · exact h
      simp only [mget, mhas, eqKey_int, decide_eq_false e, cond_false]
      exact ih (fun q hq => hk q (List.mem_cons_of_mem _ hq)) hnd.2 h2

theorem mget_no {es : List (D × List D)} (hk : ∀ p ∈ es, ∃ n : Int, p.1 = .int n) {n : Int} (h : ∀ v, (D.int n, v) ∉ es) (z : List D) : mget es (.int n) z = z ∧ mhas es (.int n) = false := by
  induction es with
  | nil => exact ⟨rfl, rfl⟩
  | cons p r ih =>
    obtain ⟨a, w⟩ := p
    obtain ⟨m, hm⟩ := hk _ List.mem_cons_self
    simp only at hm; subst hm
    have e : ¬ n = m := fun e => h w (by rw [e]; exact List.mem_cons_self)
    simp only [mget, mhas, eqKey_int, decide_eq_false e, cond_false]
    exact ih (fun q hq => hk q (List.mem_cons_of_mem _ hq)) (fun v hv => h v (List.mem_cons_of_mem _ hv))

theorem mput_spec {es : List (D × List D)} (hk : ∀ p ∈ es, ∃ n : Int, p.1 = .int n) (hnd : (es.map (·.1)).Nodup) (n : Int) (v : List D) :
    ((mput es (.int n) v).map (·.1)).Nodup ∧ ∀ p, p ∈ mput es (.int n) v ↔ (p = (.int n, v) ∨ (p ∈ es ∧ p.1 ≠ .int n)) := by
  induction es with
  | nil => exact ⟨by simp [mput], fun p => by simp [mput]⟩
  | cons q r ih =>
    obtain ⟨a, w⟩ := q
    obtain ⟨m, hm⟩ := hk _ List.mem_cons_self
    simp only at hm; subst hm
    rw [List.map_cons, List.nodup_cons] at hnd
    by_cases e : n = m
    · subst e
      simp only [mput, eqKey_int, decide_true, cond_true]
      refine ⟨by rw [List.map_cons, List.nodup_cons]; exact hnd, fun p => ?_⟩
      constructor
      · intro hp
        rcases List.mem_cons.1 hp with hp | hp
        · exact .inl hp
        · exact .inr ⟨List.mem_cons_of_mem _ hp, fun e => hnd.1 (e ▸ List.mem_map.2 ⟨p, hp, rfl⟩)⟩
      · rintro (hp | ⟨hp, hne⟩)
        · rw [hp]; exact List.mem_cons_self
        · rcases List.mem_cons.1 hp with hp | hp
          · rw [hp] at hne; exact absurd rfl hne
          · exact List.mem_cons_of_mem _ hp
    · simp only [mput, eqKey_int, decide_eq_false e, cond_false]
      obtain ⟨i1, i2⟩ := ih (fun q hq => hk q (List.mem_cons_of_mem _ hq)) hnd.2
      refine ⟨?_, fun p => ?_⟩
      · rw [List.map_cons, List.nodup_cons]
        refine ⟨fun hin => ?_, i1⟩
        obtain ⟨p, hp, he⟩ := List.mem_map.1 hin
        rcases (i2 p).1 hp with h | ⟨h, _⟩
        · rw [h] at he; injection he with he; exact e he
        · exact hnd.1 (he ▸ List.mem_map.2 ⟨p, h, rfl⟩)
      · constructor
        · intro hp
          rcases List.mem_cons.1 hp with hp | hp
          · exact .inr ⟨by rw [hp]; exact List.mem_cons_self, by rw [hp]; intro e2; injection e2 with e2; exact e e2.symm⟩
          · rcases (i2 p).1 hp with h | ⟨h, h2⟩
            · exact .inl h
            · exact .inr ⟨List.mem_cons_of_mem _ h, h2⟩
        · rintro (hp | ⟨hp, hne⟩)
          · exact List.mem_cons_of_mem _ ((i2 p).2 (.inl hp))
          · rcases List.mem_cons.1 hp with hp | hp
            · rw [hp]; exact List.mem_cons_self
            · exact List.mem_cons_of_mem _ ((i2 p).2 (.inr ⟨hp, hne⟩))

variable {es : List (D × List D)} {T : Tb}
theorem Rep.keys (h : Rep es T) : ∀ p ∈ es, ∃ n : Int, p.1 = .int n := fun p hp => by
  obtain ⟨k, c, _, rfl⟩ := (h.mem p).1 hp; exact ⟨_, rfl⟩

theorem Rep.get (h : Rep es T) {k : Nat} {c : Cf} (hk : T k = some c) (z : List D) : mget es (.int (k : Nat)) z = c.d ∧ mhas es (.int (k : Nat)) = true :=
  mget_at h.keys h.nd ((h.mem _).2 ⟨k, c, hk, rfl⟩) z

theorem Rep.getn (h : Rep es T) {k : Nat} (hk : T k = none) (z : List D) : mget es (.int (k : Nat)) z = z ∧ mhas es (.int (k : Nat)) = false := by
  refine mget_no h.keys (fun v hv => ?_) z
  obtain ⟨k', c, h1, h2⟩ := (h.mem _).1 hv
  have h3 := (Prod.mk.inj h2).1
  injection h3 with h3
  have : k = k' := by omega
  rw [← this, hk] at h1; cases h1

theorem Rep.getneg (h : Rep es T) {n : Int} (hn : n < 0) (z : List D) : mget es (.int n) z = z ∧ mhas es (.int n) = false := by
  refine mget_no h.keys (fun v hv => ?_) z
  obtain ⟨k', c, h1, h2⟩ := (h.mem _).1 hv
  have h3 := (Prod.mk.inj h2).1
  injection h3 with h3
  omega

theorem Rep.put (h : Rep es T) (k : Nat) (c : Cf) : Rep (mput es (.int (k : Nat)) c.d) (upd T k c) := by
  obtain ⟨h1, h2⟩ := mput_spec h.keys h.nd (k : Nat) c.d
  refine ⟨h1, fun p => (h2 p).trans ⟨?_, ?_⟩⟩
  · rintro (rfl | ⟨hp, hne⟩)
    · exact ⟨k, c, by unfold upd; rw [if_pos rfl], rfl⟩
    · obtain ⟨k', c', q1, rfl⟩ := (h.mem p).1 hp
      exact ⟨k', c', by unfold upd; rw [if_neg (fun e => hne (by rw [e]))]; exact q1, rfl⟩
  · rintro ⟨k', c', q1, rfl⟩
    unfold upd at q1
    by_cases e : k' = k
    · subst e
      rw [if_pos rfl] at q1; cases q1
      exact .inl rfl
    · rw [if_neg e] at q1
      exact .inr ⟨(h.mem _).2 ⟨k', c', q1, rfl⟩, fun e2 => e (by injection e2 with e2; omega)⟩

theorem Good.put {i : Nat} (h : Good T i) {k : Nat} (hk : k < 10) {c : Cf} (hc : CfOK c (i + 1)) : Good (upd T k c) (i + 1) := by
  refine ⟨fun q d hq => ?_, fun q d hq => ?_⟩
  · unfold upd at hq
    split at hq
    · omega
    · exact h.lt q d hq
  · unfold upd at hq
    split at hq
    · cases hq; exact hc
    · exact (h.up (Nat.le_succ i)).ok q d hq

theorem cd0 (c : Cf) : (cell 0 c.d).toInt = c.e := of_eq_true (eq_self _)
theorem cd1 (c : Cf) : (cell 1 c.d).toRows = c.m := of_eq_true (eq_self _)
theorem cd2 (c : Cf) : (cell 2 c.d).toBool = c.j := of_eq_true (eq_self _)

/-- What an order does to a shard that has a configuration. -/
def aOne (T : Tb) (s : Nat) (c : Cf) (kd nd : Int) : Int × Tb :=
  if kd = 1 then
    match ix (vals c.m) nd with
    | none => (6, T)
    | some k =>
      if ¬ (c.j = true ∧ k + 1 = c.m.length) ∧ (if c.j then c.m.length - 1 else c.m.length) < 2 then (9, T)
      else (0, upd T s ⟨c.e + 1, delAt c.m k (k + 1), c.j && !decide (k + 1 = c.m.length)⟩)
  else if kd = 2 then
    if ¬ (0 ≤ nd ∧ nd < 100) then (1, T)
    else if nd ∈ vals c.m then (7, T)
    else if c.j = true ∨ 7 ≤ c.m.length then (9, T)
    else (0, upd T s ⟨c.e + 1, c.m ++ [[D.int nd]], true⟩)
  else if ¬ (c.j = true ∧ atI (vals c.m) nd = c.m.length - 1) then (9, T)
  else (0, upd T s ⟨c.e, c.m, false⟩)

def aDo (T : Tb) (kd sh ep nd : Int) (mb : List (List D)) : Int × Tb :=
  if kd < 0 ∨ 3 < kd ∨ sh < 0 ∨ 10 ≤ sh then (1, T)
  else if kd = 0 then
    match T sh.toNat with
    | some _ => (7, T)
    | none => if memOK (vals mb) = true then (0, upd T sh.toNat ⟨1, mb, false⟩) else (1, T)
  else match T sh.toNat with
    | none => (6, T)
    | some c => if c.e = ep then aOne T sh.toNat c kd nd else (11, T)

theorem memOK_iff (m : List Int) : memOK m = true ↔ inAll m ∧ 1 ≤ m.length ∧ m.length ≤ 7 := by
  unfold memOK inAll; rw [decide_eq_true_eq]; exact ⟨fun ⟨a, b, c, d⟩ => ⟨⟨a, b⟩, c, d⟩, fun ⟨⟨a, b⟩, c, d⟩ => ⟨a, b, c, d⟩⟩

theorem ix_lt {m : List Int} {n : Int} {i : Nat} (h : ix m n = some i) : i < m.length := (ix_some h).1

theorem inAll_del {m : List Int} (h : inAll m) (k : Nat) : inAll (m.take k ++ m.drop (k + 1)) := by
  have hs : (m.take k ++ m.drop (k + 1)).Sublist m := by
    conv => rhs; rw [← List.take_append_drop k m]
    exact (List.Sublist.refl _).append (by
      rw [show m.drop (k + 1) = (m.drop k).drop 1 by rw [List.drop_drop]]
      exact List.drop_sublist _ _)
  exact ⟨hs.nodup h.1, fun n hn => h.2 n (hs.subset hn)⟩

theorem delAt_len (m : List (List D)) (k : Nat) (hk : k < m.length) : (delAt m k (k + 1)).length = m.length - 1 := by
  unfold delAt; simp; omega
theorem delAt_vals (m : List (List D)) (k : Nat) : vals (delAt m k (k + 1)) = (vals m).take k ++ (vals m).drop (k + 1) := by
  unfold delAt; rw [vals_app, vals_take, vals_drop]

theorem good_aDo {i : Nat} (h : Good T i) (kd sh ep nd : Int) (mb : List (List D)) : Good (aDo T kd sh ep nd mb).2 (i + 1) := by
  unfold aDo
  by_cases h0 : kd < 0 ∨ 3 < kd ∨ sh < 0 ∨ 10 ≤ sh
  · rw [if_pos h0]; exact h.up (Nat.le_succ i)
  · rw [if_neg h0]
    have hs : sh.toNat < 10 := by omega
    by_cases h1 : kd = 0
    · rw [if_pos h1]
      cases hT : T sh.toNat with
      | some c => exact h.up (Nat.le_succ i)
      | none =>
        simp only
        by_cases h2 : memOK (vals mb) = true
        · rw [if_pos h2]
          obtain ⟨a, b, c⟩ := (memOK_iff _).1 h2
          rw [vals_len] at b c
          exact h.put hs ⟨by show (1 : Int) ≤ 1; omega, by show (1 : Int) ≤ _; omega, a, b, c, fun e => by cases e⟩
        · rw [if_neg h2]; exact h.up (Nat.le_succ i)
    · rw [if_neg h1]
      cases hT : T sh.toNat with
      | none => exact h.up (Nat.le_succ i)
      | some c =>
        have hc := h.ok _ _ hT
        simp only
        by_cases h2 : c.e = ep
        · rw [if_pos h2]
          unfold aOne
          by_cases h3 : kd = 1
          · rw [if_pos h3]
            cases hx : ix (vals c.m) nd with
            | none => exact h.up (Nat.le_succ i)
            | some k =>
              simp only
              have hk : k < c.m.length := by have := ix_lt hx; rwa [vals_len] at this
              by_cases h4 : ¬ (c.j = true ∧ k + 1 = c.m.length) ∧ (if c.j then c.m.length - 1 else c.m.length) < 2
              · rw [if_pos h4]; exact h.up (Nat.le_succ i)
              · rw [if_neg h4]
                have hd := delAt_len c.m k hk
                have hl1 := hc.l1
                have he0 := hc.e0
                have he1 := hc.e1
                refine h.put hs ⟨by show 1 ≤ c.e + 1; omega, by show c.e + 1 ≤ _; omega, by show inAll (vals (delAt c.m k (k + 1))); rw [delAt_vals]; exact inAll_del hc.m k, ?_, ?_, ?_⟩
                · show 1 ≤ (delAt c.m k (k + 1)).length
                  rw [hd]
                  cases hj : c.j with
                  | true => have := hc.j hj; omega
                  | false =>
                    rw [hj] at h4
                    simp at h4
                    omega
                · show (delAt c.m k (k + 1)).length ≤ 7
                  omega
                · intro hj
                  have hj : (c.j && !decide (k + 1 = c.m.length)) = true := hj
                  show 2 ≤ (delAt c.m k (k + 1)).length
                  rw [hd]
                  simp only [Bool.and_eq_true, Bool.not_eq_true', decide_eq_false_iff_not] at hj
                  rw [hj.1] at h4
                  simp [hj.2] at h4
                  omega
          · rw [if_neg h3]
            by_cases h5 : kd = 2
            · rw [if_pos h5]
              by_cases h6 : ¬ (0 ≤ nd ∧ nd < 100)
              · rw [if_pos h6]; exact h.up (Nat.le_succ i)
              · rw [if_neg h6]
                by_cases h7 : nd ∈ vals c.m
                · rw [if_pos h7]; exact h.up (Nat.le_succ i)
                · rw [if_neg h7]
                  by_cases h8 : c.j = true ∨ 7 ≤ c.m.length
                  · rw [if_pos h8]; exact h.up (Nat.le_succ i)
                  · rw [if_neg h8]
                    have he0 := hc.e0
                    have he1 := hc.e1
                    have hl0 := hc.l0
                    refine h.put hs ⟨by show 1 ≤ c.e + 1; omega, by show c.e + 1 ≤ _; omega, ?_, ?_, ?_, ?_⟩
                    · show inAll (vals (c.m ++ [[D.int nd]]))
                      rw [vals_app]
                      exact inAll_snoc hc.m (x := nd) (by omega) h7
                    · show 1 ≤ (c.m ++ [[D.int nd]]).length
                      simp
                    · show (c.m ++ [[D.int nd]]).length ≤ 7
                      simp; omega
                    · intro _
                      show 2 ≤ (c.m ++ [[D.int nd]]).length
                      simp; omega
            · rw [if_neg h5]
              by_cases h6 : ¬ (c.j = true ∧ atI (vals c.m) nd = c.m.length - 1)
              · rw [if_pos h6]; exact h.up (Nat.le_succ i)
              · rw [if_neg h6]
                have he1 := hc.e1
                exact h.put hs ⟨hc.e0, by show c.e ≤ _; omega, hc.m, hc.l0, hc.l1, fun e => by cases e⟩
        · rw [if_neg h2]; exact h.up (Nat.le_succ i)
end Go.Proofs.YtlakjegifgonbaaDoor.V

/- master: the program does an order as it is meant: plain laws. -/
namespace Go.Proofs.YtlakjegifgonbaaDoor.V
variable {R : Type}

abbrev ordD (kd sh ep nd : Int) (mb : List (List D)) : List D := [D.int kd, D.int sh, D.int ep, D.int nd, D.row mb]
theorem or0 (kd sh ep nd : Int) (mb : List (List D)) : (cell 0 [D.int kd, D.int sh, D.int ep, D.int nd, D.row mb]).toInt = kd := of_eq_true (eq_self _)
theorem or1 (kd sh ep nd : Int) (mb : List (List D)) : (cell 1 [D.int kd, D.int sh, D.int ep, D.int nd, D.row mb]).toInt = sh := of_eq_true (eq_self _)
theorem or2 (kd sh ep nd : Int) (mb : List (List D)) : (cell 2 [D.int kd, D.int sh, D.int ep, D.int nd, D.row mb]).toInt = ep := of_eq_true (eq_self _)
theorem or3 (kd sh ep nd : Int) (mb : List (List D)) : (cell 3 [D.int kd, D.int sh, D.int ep, D.int nd, D.row mb]).toInt = nd := of_eq_true (eq_self _)
theorem or4 (kd sh ep nd : Int) (mb : List (List D)) : (cell 4 [D.int kd, D.int sh, D.int ep, D.int nd, D.row mb]).toRows = mb := of_eq_true (eq_self _)

variable {es : List (D × List D)} {T : Tb}

theorem F16_ok {fu : Nat} (h : Rep es T) {i : Nat} (g : Good T i) (k : Nat) (k0 : List D → Bool → Option R) :
    F16 fu (k : Nat) es k0 = match T k with | some c => k0 c.d true | none => k0 [D.int 0, D.row [], D.bool false] false := by
  rw [F16_eq, Fb16, F30_eq, Fb30, cfg1]
  cases hT : T k with
  | some c =>
    obtain ⟨h1, h2⟩ := h.get hT [D.int 0, D.nil, D.bool false]
    have hl := (g.ok _ _ hT).l1
    rw [h1, h2, cd0, cd1, cd2, fits_of (by omega) (by omega)]; rfl
  | none =>
    obtain ⟨h1, h2⟩ := h.getn hT [D.int 0, D.nil, D.bool false]
    rw [h1, h2, fits_of (by show 0 ≤ 1000000; omega) (by omega)]; rfl

theorem F16_neg {fu : Nat} (h : Rep es T) {n : Int} (hn : n < 0) (k0 : List D → Bool → Option R) : F16 fu n es k0 = k0 [D.int 0, D.row [], D.bool false] false := by
  rw [F16_eq, Fb16, F30_eq, Fb30, cfg1]
  obtain ⟨h1, h2⟩ := h.getneg hn [D.int 0, D.nil, D.bool false]
  rw [h1, h2, fits_of (by show 0 ≤ 1000000; omega) (by omega)]; rfl

theorem F25_ok {fu : Nat} (hf : 1100 ≤ fu) (h : Rep es T) (kd ep nd : Int) (s : Nat) (mb : List (List D)) (hmb : mb.length ≤ 1000) :
    ∃ es', Rep es' (match T s with | some _ => (7, T) | none => if memOK (vals mb) = true then (0, upd T s ⟨1, mb, false⟩) else (1, T) : Int × Tb).2 ∧ ∀ (R : Type) (k0 : Int → List (D × List D) → Option R),
      F25 fu [D.int kd, D.int (s : Nat), D.int ep, D.int nd, D.row mb] es k0 = k0 (match T s with | some _ => (7, T) | none => if memOK (vals mb) = true then (0, upd T s ⟨1, mb, false⟩) else (1, T) : Int × Tb).1 es' := by
  cases hT : T s with
  | some c =>
    refine ⟨es, h, fun R k0 => ?_⟩
    rw [F25_eq, Fb25, or1, (h.get hT []).2]; rfl
  | none =>
    by_cases hm : memOK (vals mb) = true
    · simp only [if_pos hm]
      refine ⟨_, h.put s ⟨1, mb, false⟩, fun R k0 => ?_⟩
      rw [F25_eq, Fb25, or1, or4, (h.getn hT []).2, cond_false, F38_ok hf hmb, hm, fits_of (by omega) (by omega)]; rfl
    · simp only [if_neg hm]
      refine ⟨es, h, fun R k0 => ?_⟩
      rw [Bool.not_eq_true] at hm
      rw [F25_eq, Fb25, or1, or4, (h.getn hT []).2, cond_false, F38_ok hf hmb, hm]; rfl

set_option maxHeartbeats 2000000 in
theorem F14_ok {fu : Nat} (hf : 1100 ≤ fu) (h : Rep es T) {i : Nat} (g : Good T i) (hi : i ≤ 1000) (kd sh ep nd : Int) (mb : List (List D)) (hmb : mb.length ≤ 1000) :
    ∃ es', Rep es' (aDo T kd sh ep nd mb).2 ∧ ∀ (R : Type) (k0 : Int → List (D × List D) → Option R), F14 fu [D.int kd, D.int sh, D.int ep, D.int nd, D.row mb] es k0 = k0 (aDo T kd sh ep nd mb).1 es' := by
  have start : ∀ (R : Type) (k0 : Int → List (D × List D) → Option R), F14 fu [D.int kd, D.int sh, D.int ep, D.int nd, D.row mb] es k0 = Fb14 fu [D.int kd, D.int sh, D.int ep, D.int nd, D.row mb] es k0 := fun R k0 => F14_eq ..
  unfold aDo
  by_cases h0 : kd < 0 ∨ 3 < kd ∨ sh < 0 ∨ 10 ≤ sh
  · rw [if_pos h0]
    refine ⟨es, h, fun R k0 => ?_⟩
    rw [start, Fb14, or0, or1]
    by_cases a1 : kd < 0
    · rw [lt_true a1]; rfl
    · rw [lt_false a1, cond_false]
      by_cases a2 : 3 < kd
      · rw [lt_true a2]; rfl
      · rw [lt_false a2, cond_false]
        by_cases a3 : sh < 0
        · rw [lt_true a3]; rfl
        · rw [lt_false a3, cond_false, le_true (show 10 ≤ sh by omega)]; rfl
  · rw [if_neg h0]
    obtain ⟨s, rfl⟩ : ∃ s : Nat, sh = (s : Int) := ⟨sh.toNat, by omega⟩
    rw [Int.toNat_natCast]
    have pre : ∀ (R : Type) (k0 : Int → List (D × List D) → Option R), ¬ kd < 0 ∧ ¬ 3 < kd ∧ ¬ (s : Int) < 0 ∧ ¬ 10 ≤ (s : Int) := fun _ _ => by omega
    obtain ⟨b1, b2, b3, b4⟩ : ¬ kd < 0 ∧ ¬ 3 < kd ∧ ¬ (s : Int) < 0 ∧ ¬ 10 ≤ (s : Int) := by omega
    by_cases h1 : kd = 0
    · rw [if_pos h1]
      obtain ⟨es', q1, q2⟩ := F25_ok hf h kd ep nd s mb hmb
      refine ⟨es', q1, fun R k0 => ?_⟩
      rw [start, Fb14, or0, or1, or2, or3, or4, lt_false b1, cond_false, lt_false b2, cond_false, lt_false b3, cond_false, le_false b4, cond_false, eq_true h1, cond_true]
      exact q2 R k0
    · rw [if_neg h1]
      cases hT : T s with
      | none =>
        refine ⟨es, h, fun R k0 => ?_⟩
        obtain ⟨g1, g2⟩ := h.getn hT [D.int 0, D.nil, D.bool false]
        rw [start, Fb14, or0, or1, or2, or3, or4, lt_false b1, cond_false, lt_false b2, cond_false, lt_false b3, cond_false, le_false b4, cond_false, eq_false h1, cond_false, g2, g1, fits_of (by show 0 ≤ 1000000; omega) (by omega)]; rfl
      | some c =>
        simp only
        have hc := g.ok _ _ hT
        obtain ⟨l0, l1, e0, e1⟩ : 1 ≤ c.m.length ∧ c.m.length ≤ 7 ∧ 1 ≤ c.e ∧ c.e ≤ i + 1 := ⟨hc.l0, hc.l1, hc.e0, hc.e1⟩
        obtain ⟨g1, g2⟩ := h.get hT [D.int 0, D.nil, D.bool false]
        have hfit : fits c.m.length 8 = true := fits_of (by omega) (by omega)
        have go : ∀ (R : Type) (k0 : Int → List (D × List D) → Option R), c.e = ep → F14 fu [D.int kd, D.int (s : Int), D.int ep, D.int nd, D.row mb] es k0 = _ := fun R k0 he => by
          rw [start, Fb14, or0, or1, or2, or3, or4, lt_false b1, cond_false, lt_false b2, cond_false, lt_false b3, cond_false, le_false b4, cond_false, eq_false h1, cond_false, g2, g1, cd0, cd1, cd2, hfit, cond_true, Bool.not_true, cond_false, eq_true he, Bool.not_true, cond_false]
        by_cases he : c.e = ep
        · rw [if_pos he]
          have hw : IntKind.i64.wrap (ofN c.m.length - 1) = (c.m.length : Int) - 1 := by unfold ofN; rw [wrap_of (by omega) (by omega)]
          have hw3 : IntKind.i64.wrap (c.e + 1) = c.e + 1 := wrap_of (by omega) (by omega)
          unfold aOne
          by_cases h3 : kd = 1
          · rw [if_pos h3]
            cases hx : ix (vals c.m) nd with
            | none =>
              refine ⟨es, h, fun R k0 => ?_⟩
              have ha : atI (vals c.m) nd = -1 := by unfold atI; rw [hx]
              rw [go R k0 he, eq_true h3, cond_true, F18_ok hf (by omega), ha]; rfl
            | some k =>
              simp only
              have hk : k < c.m.length := by have := ix_lt hx; rwa [vals_len] at this
              have ha : atI (vals c.m) nd = (k : Int) := by unfold atI; rw [hx]
              have hw2 : IntKind.i64.wrap ((k : Int) + 1) = ((k + 1 : Nat) : Int) := wrap_succ (by omega)
              have hd : delOK c.m (k : Int) ((k + 1 : Nat) : Int) = true := by
                unfold delOK upTo; rw [decide_eq_true ⟨by omega, by omega⟩, decide_eq_true ⟨by omega, by omega⟩]; rfl
              have hneg : decide ((k : Int) < 0) = false := lt_false (by omega)
              have fin : ∀ (b : Bool) (R : Type) (k0 : Int → List (D × List D) → Option R), k0 0 (mput es (D.int (s : Int)) [D.int (c.e + 1), D.row (delAt c.m ((k : Int)).toNat (((k + 1 : Nat) : Int)).toNat), D.bool b]) = k0 0 (mput es (D.int (s : Int)) (Cf.d ⟨c.e + 1, delAt c.m k (k + 1), b⟩)) := fun b R k0 => by
                rw [Int.toNat_natCast, Int.toNat_natCast]; rfl
              by_cases h4 : ¬ (c.j = true ∧ k + 1 = c.m.length) ∧ (if c.j then c.m.length - 1 else c.m.length) < 2
              · rw [if_pos h4]
                refine ⟨es, h, fun R k0 => ?_⟩
                rw [go R k0 he, eq_true h3, cond_true, F18_ok hf (by omega), ha, hneg, cond_false, hw]
                cases hj : c.j with
                | true =>
                  rw [hj] at h4
                  simp only [true_and, if_true] at h4
                  simp only [cond_true]
                  rw [eq_false (show ¬ (k : Int) = (c.m.length : Int) - 1 by omega), Bool.not_false, cond_true, lt_true (show (c.m.length : Int) - 1 < 2 by omega)]; rfl
                | false =>
                  rw [hj] at h4
                  simp at h4
                  have q : k + 1 = c.m.length := by omega
                  simp only [cond_false]
                  rw [lt_true (show ofN c.m.length < 2 by unfold ofN; omega)]; rfl
              · rw [if_neg h4]
                refine ⟨_, h.put s ⟨c.e + 1, delAt c.m k (k + 1), c.j && !decide (k + 1 = c.m.length)⟩, fun R k0 => ?_⟩
                rw [go R k0 he, eq_true h3, cond_true, F18_ok hf (by omega), ha, hneg, cond_false, hw, hw2, hw3, hd]
                cases hj : c.j with
                | true =>
                  rw [hj] at h4
                  simp only [cond_true, if_true, true_and] at h4 ⊢
                  by_cases q : k + 1 = c.m.length
                  · rw [eq_true (show (k : Int) = (c.m.length : Int) - 1 by omega), Bool.not_true, cond_false, decide_eq_true q]
                    exact fin false R k0
                  · rw [eq_false (show ¬ (k : Int) = (c.m.length : Int) - 1 by omega), Bool.not_false, cond_true, lt_false (show ¬ (c.m.length : Int) - 1 < 2 by omega), cond_false, decide_eq_false q]
                    exact fin true R k0
                | false =>
                  rw [hj] at h4
                  simp at h4
                  simp only [cond_false, cond_true]
                  rw [lt_false (show ¬ ofN c.m.length < 2 by unfold ofN; omega), cond_false]
                  exact fin false R k0
          · rw [if_neg h3]
            by_cases h5 : kd = 2
            · rw [if_pos h5]
              by_cases h6 : ¬ (0 ≤ nd ∧ nd < 100)
              · rw [if_pos h6]
                refine ⟨es, h, fun R k0 => ?_⟩
                rw [go R k0 he, eq_false h3, cond_false, eq_true h5, cond_true, F41_ok, decide_eq_false h6]; rfl
              · rw [if_neg h6]
                have h6' : 0 ≤ nd ∧ nd < 100 := by omega
                by_cases h7 : nd ∈ vals c.m
                · rw [if_pos h7]
                  refine ⟨es, h, fun R k0 => ?_⟩
                  rcases atI_cases (vals c.m) nd with ⟨_, _, q⟩ | ⟨k, q, _⟩
                  · exact absurd h7 q
                  · rw [go R k0 he, eq_false h3, cond_false, eq_true h5, cond_true, F41_ok, decide_eq_true h6', Bool.not_true, cond_false, F18_ok hf (by omega), q, le_true (show (0 : Int) ≤ (k : Int) by omega)]; rfl
                · rw [if_neg h7]
                  have ha : atI (vals c.m) nd = -1 := by unfold atI; rw [ix_none.2 h7]
                  by_cases h8 : c.j = true ∨ 7 ≤ c.m.length
                  · rw [if_pos h8]
                    refine ⟨es, h, fun R k0 => ?_⟩
                    rw [go R k0 he, eq_false h3, cond_false, eq_true h5, cond_true, F41_ok, decide_eq_true h6', Bool.not_true, cond_false, F18_ok hf (by omega), ha]
                    cases hj : c.j with
                    | true => rfl
                    | false =>
                      rw [hj] at h8
                      rw [le_true (show (7 : Int) ≤ ofN c.m.length by unfold ofN; simp at h8; omega)]; rfl
                  · rw [if_neg h8]
                    refine ⟨_, h.put s ⟨c.e + 1, c.m ++ [[D.int nd]], true⟩, fun R k0 => ?_⟩
                    have hj : c.j = false := by cases hj : c.j with | false => rfl | true => exact absurd (.inl hj) h8
                    rw [go R k0 he, eq_false h3, cond_false, eq_true h5, cond_true, F41_ok, decide_eq_true h6', Bool.not_true, cond_false, F18_ok hf (by omega), ha, hj, hw3, le_false (show ¬ (7 : Int) ≤ ofN c.m.length by unfold ofN; omega), fits_of (show c.m.length + 1 ≤ 1000000 by omega) (by omega)]; rfl
            · rw [if_neg h5]
              by_cases h6 : ¬ (c.j = true ∧ atI (vals c.m) nd = c.m.length - 1)
              · rw [if_pos h6]
                refine ⟨es, h, fun R k0 => ?_⟩
                rw [go R k0 he, eq_false h3, cond_false, eq_false h5, cond_false]
                cases hj : c.j with
                | false => rfl
                | true =>
                  rw [hj] at h6
                  rw [Bool.not_true, cond_false, F18_ok hf (by omega), hw, eq_false (fun e => h6 ⟨rfl, e⟩)]; rfl
              · rw [if_neg h6]
                have h6' : c.j = true ∧ atI (vals c.m) nd = c.m.length - 1 := Decidable.of_not_not h6
                refine ⟨_, h.put s ⟨c.e, c.m, false⟩, fun R k0 => ?_⟩
                rw [go R k0 he, eq_false h3, cond_false, eq_false h5, cond_false, h6'.1, Bool.not_true, cond_false, F18_ok hf (by omega), hw, eq_true h6'.2]; rfl
        · rw [if_neg he]
          refine ⟨es, h, fun R k0 => ?_⟩
          rw [start, Fb14, or0, or1, or2, or3, or4, lt_false b1, cond_false, lt_false b2, cond_false, lt_false b3, cond_false, le_false b4, cond_false, eq_false h1, cond_false, g2, g1, cd0, cd1, cd2, hfit, cond_true, Bool.not_true, cond_false, eq_false he]; rfl
end Go.Proofs.YtlakjegifgonbaaDoor.V

/- Printed by ugen: daisychain/daisychainref13.digits -/
namespace Go.Proofs.YtlakjegifgonbaaDoor.V
set_option maxRecDepth 100000
set_option maxHeartbeats 4000000


noncomputable def code49 : Code := match Tryd.f49.body with | some c => c | none => .skip

noncomputable def F49 {R : Type} (fu : Nat) : Nat → Int → (ByteArray → Option R) → Option R
  | 0, _, _ => none
  | n + 1, n_, k0 => bif decide (n_ < 0) then bif decide (n_ = -9223372036854775808) then (k0 ((ByteArray.mk #[45, 57, 50, 50, 51, 51, 55, 50, 48, 51, 54, 56, 53, 52, 55, 55, 53, 56, 48, 56]))) else F49 fu n (IntKind.i64.wrap (0 - n_)) fun o_0 => bif decide (↑((ByteArray.mk #[45]).size + o_0.size) ≤ IntKind.i64.max) then (k0 ((ByteArray.mk #[45]) ++ o_0)) else none else bif decide (n_ < 10) then bif decide (0 ≤ n_ ∧ n_ ≤ IntKind.i64.wrap (n_ + 1)) && upTo (IntKind.i64.wrap (n_ + 1)) 10 then (k0 ((ByteArray.mk #[48, 49, 50, 51, 52, 53, 54, 55, 56, 57]).extract n_.toNat (IntKind.i64.wrap (n_ + 1)).toNat)) else none else F49 fu n (IntKind.i64.wrap (n_.tdiv 10)) fun o_1 => F49 fu n (n_.tmod 10) fun o_2 => bif decide (↑(o_1.size + o_2.size) ≤ IntKind.i64.max) then (k0 (o_1 ++ o_2)) else none

noncomputable def pc49 (fu : Nat) : Nat → Option ToldP := fun _ => none
noncomputable def t49 (fu n : Nat) : ToldF := fun _ args s K => match args, s with
  | [.int .i64 n_], [] => F49 fu n n_ (fun o_ => K (.str o_) [])
  | _, _ => none

noncomputable def tbs49 (fu n : Nat) : FuncId → Option (Bool × ToldF) := fun f => match Nat.beq f 49 with
  | true => some (false, ghG [] (t49 fu n))
  | false => (tb23 fu) f
theorem tbs49_sound (fu n : Nat) (ih : Tells Tryd.prog 49 (t49 fu n)) : SoundF' Tryd.prog (tbs49 fu n) := by
  intro f own told h
  unfold tbs49 at h
  split at h
  · rename_i hb
    cases h
    have := Nat.eq_of_beq_eq_true hb
    subst this
    exact ghG_sound ih
  · exact (tb23_sound fu) f own told h
theorem e49 (R : Type) (K : UV → USt → Option R) (fu n : Nat) (n_ : Int) :
    F49 fu (n + 1) n_ (fun o_ => K (.str o_) []) = ufun Tryd.prog ⟨(tbs49 fu n), pc49 fu⟩ 300 49 [.int .i64 n_] [] (funK 0 [.gc] K) := by kernel_rfl

theorem s49 (fu : Nat) : ∀ n, Tells Tryd.prog 49 (t49 fu n) := by
  intro n
  induction n with
  | zero =>
    intro R args s K r h
    unfold t49 at h
    repeat' split at h
    all_goals first | cases h | (unfold F49 at h; cases h)
  | succ n ih =>
    refine ufun_sound (T := ⟨(tbs49 fu n), pc49 fu⟩) (m := 0) (gout := [.gc]) (k := 300) (tbs49_sound fu n ih) (fun fn body hf hb => ?_) (fun R args s K r h => ?_) (fun R args s K r h => ?_)
    · have hc : body = code49 := by
        have h1 : Tryd.prog.funcs[49]? = some Tryd.f49 := rfl
        rw [h1] at hf; cases hf
        have h2 : Tryd.f49.body = some code49 := rfl
        rw [h2] at hb; cases hb; rfl
      subst hc
      exact SoundPc.none _ _ _
    · unfold t49 at h; split at h
      · rfl
      · cases h
    · unfold t49 at h; split at h
      case h_2 => cases h
      exact (e49 R K fu n _).symm.trans h

noncomputable def tb49 (fu : Nat) : FuncId → Option (Bool × ToldF) := fun f => match Nat.beq f 49 with
  | true => some (false, ghG [] (t49 fu fu))
  | false => (tb23 fu) f
theorem tb49_sound (fu : Nat) : SoundF' Tryd.prog (tb49 fu) := by
  intro f own told h
  unfold tb49 at h
  split at h
  · rename_i hb
    cases h
    have := Nat.eq_of_beq_eq_true hb
    subst this
    exact ghG_sound (s49 fu fu)
  · exact (tb23_sound fu) f own told h

end Go.Proofs.YtlakjegifgonbaaDoor.V

/- Printed by ugen: daisychain/daisychainref13.Row -/
namespace Go.Proofs.YtlakjegifgonbaaDoor.V
set_option maxRecDepth 100000
set_option maxHeartbeats 4000000


noncomputable def code42 : Code := match Tryd.f42.body with | some c => c | none => .skip
theorem a42_58 : codeAt code42 58 = some (.loop (loopBody (codeAt code42 58))) := by kernel_rfl
noncomputable def F42_58 {R : Type} (fu : Nat) (l : List (List D)) : Nat → ByteArray → Int → (ByteArray → Option R) → Option R
  | 0, _, _, _ => none
  | n + 1, out, i, k0 => bif decide (i < ofN l.length) then bif decide (0 < i) then bif decide (↑(out.size + (ByteArray.mk #[32]).size) ≤ IntKind.i64.max) then bif within i l.length then F49 fu fu (cell 0 (elem i.toNat l)).toInt fun o_0 => bif decide (↑((out ++ (ByteArray.mk #[32])).size + o_0.size) ≤ IntKind.i64.max) then (F42_58 fu l n (out ++ (ByteArray.mk #[32]) ++ o_0) (IntKind.i64.wrap (i + 1)) k0) else none else none else none else bif within i l.length then F49 fu fu (cell 0 (elem i.toNat l)).toInt fun o_1 => bif decide (↑(out.size + o_1.size) ≤ IntKind.i64.max) then (F42_58 fu l n (out ++ o_1) (IntKind.i64.wrap (i + 1)) k0) else none else none else (k0 out)

noncomputable def t42_58 (fu n : Nat) : ToldP := fun _ e s K => match e, s with
  | [.fz zq0 l false, .str out, .int .i64 i], [] => (match FT.sames zq0 ft0 with | true => F42_58 fu l n out i (fun o_ => K (.exit 0) (unpackM (bitsM 4 0x8) [.str o_]) []) | false => none)
  | _, _ => none

noncomputable def pc42_58 (fu : Nat) : Nat → Option ToldP := fun _ => none
theorem e42_58 (fu n : Nat) (R : Type) (K : VExit → UEnv → USt → Option R) (l : List (List D)) (out : ByteArray) (i : Int) :
    F42_58 fu l (n + 1) out i (fun o_ => K (.exit 0) (unpackM (bitsM 4 0x8) [.str o_]) []) = uexec Tryd.prog (tb49 fu) 300 (pc42_58 fu) 116 (loopBody (codeAt code42 58)) (unpackM (bitsM 5 0x19) [.fz ft0 l false, .str out, .int .i64 i]) [] (loopK 0 [.live (bitsM 5 0x19), .fzP 0 [] ft0, .gc] [.live (bitsM 4 0xc), .gc] (pkP (bitsM 5 0x19) (t42_58 fu n)) K) := by kernel_rfl

theorem p42_58 (fu : Nat) : SoundPc Tryd.prog 0 code42 (pc42_58 fu) := SoundPc.none _ _ _
theorem s42_58 (fu : Nat) : ∀ n, SoundP Tryd.prog 0 (.loop (loopBody (codeAt code42 58))) (pkP (bitsM 5 0x19) (t42_58 fu n)) := by
  refine loopP_sound (gin := [.live (bitsM 5 0x19), .fzP 0 [] ft0, .gc]) (gout := [.live (bitsM 4 0xc), .gc]) (k := 300) (tb49_sound fu) (p42_58 fu) (by decide) a42_58 (fun R e s K => ?_) (fun n R e s K r h => ?_)
  · unfold t42_58; repeat' split
    all_goals rfl
  · unfold t42_58 at h; split at h
    case h_2 => cases h
    split at h
    case h_2 => cases h
    rename_i hq
    have hq := FT.sames_eq _ _ hq
    subst hq
    exact (e42_58 fu n R K _ _ _).symm.trans h


noncomputable def Fb42 {R : Type} (fu : Nat) (l : List (List D)) (k0 : ByteArray → Option R) : Option R :=
  F42_58 fu l fu (ByteArray.mk #[]) 0 fun o_0 => (k0 o_0)

noncomputable def F42 {R : Type} (fu : Nat) (l : List (List D)) (k0 : ByteArray → Option R) : Option R := shut (@Fb42 R) fu l k0
theorem F42_eq {R : Type} (fu : Nat) (l : List (List D)) (k0 : ByteArray → Option R) : F42 fu l k0 = Fb42 fu l k0 := by unfold F42; rw [shut_eq]

noncomputable def pc42 (fu : Nat) : Nat → Option ToldP := fun p => match Nat.beq p 58 with | true => some (ghP 0 [.live (bitsM 5 0x19), .fzP 0 [] ft0, .gc] (pkP (bitsM 5 0x19) (t42_58 fu fu))) | false => none
noncomputable def t42 (fu : Nat) : ToldF := fun _ args s K => match args, s with
  | [.fz zq0 l false], [] => (match FT.sames zq0 ft0 with | true => F42 fu l (fun o_ => K (.str o_) []) | false => none)
  | _, _ => none

theorem e42 (R : Type) (K : UV → USt → Option R) (fu : Nat) (l : List (List D)) :
    F42 fu l (fun o_ => K (.str o_) []) = ufun Tryd.prog ⟨(tb49 fu), pc42 fu⟩ 300 42 [.fz ft0 l false] [] (funK 0 [.gc] K) := (F42_eq fu _ _).trans (by kernel_rfl)

theorem s42 (fu : Nat) : Tells Tryd.prog 42 (t42 fu) := by
  refine ufun_sound (T := ⟨(tb49 fu), pc42 fu⟩) (m := 0) (gout := [.gc]) (k := 300) (tb49_sound fu) (fun fn body hf hb => ?_) (fun R args s K r h => ?_) (fun R args s K r h => ?_)
  · have hc : body = code42 := by
      have h1 : Tryd.prog.funcs[42]? = some Tryd.f42 := rfl
      rw [h1] at hf; cases hf
      have h2 : Tryd.f42.body = some code42 := rfl
      rw [h2] at hb; cases hb; rfl
    subst hc
    exact fun p told h b hb => by
      replace h : pc42 fu p = some told := h
      unfold pc42 at h
      split at h
      · rename_i hp
        cases h
        have := Nat.eq_of_beq_eq_true hp
        subst this
        rw [a42_58] at hb
        cases hb
        exact ghP_sound (s42_58 fu _)
      ·
        cases h

  · unfold t42 at h; split at h
    · rfl
    · cases h
  · unfold t42 at h; split at h
    case h_2 => cases h
    split at h
    case h_2 => cases h
    rename_i hq
    have hq := FT.sames_eq _ _ hq
    subst hq
    exact (e42 R K fu _).symm.trans h

noncomputable def tb42 (fu : Nat) : FuncId → Option (Bool × ToldF) := fun f => match Nat.beq f 42 with
  | true => some (false, ghG [.fzP 0 [] ft0] (t42 fu))
  | false => (tb49 fu) f
theorem tb42_sound (fu : Nat) : SoundF' Tryd.prog (tb42 fu) := by
  intro f own told h
  unfold tb42 at h
  split at h
  · rename_i hb
    cases h
    have := Nat.eq_of_beq_eq_true hb
    subst this
    exact ghG_sound (s42 fu)
  · exact (tb49_sound fu) f own told h

end Go.Proofs.YtlakjegifgonbaaDoor.V

/- Printed by ugen: daisychain/daisychainref13.Text -/
namespace Go.Proofs.YtlakjegifgonbaaDoor.V
set_option maxRecDepth 100000
set_option maxHeartbeats 4000000


noncomputable def code29 : Code := match Tryd.f29.body with | some c => c | none => .skip
theorem a29_58 : codeAt code29 58 = some (.loop (loopBody (codeAt code29 58))) := by kernel_rfl
noncomputable def F29_58 {R : Type} (fu : Nat) (t : Int) (t1 : List (List D)) (t2 : Bool) (t3 : Int) (t4 : List (List D)) (t5 : Bool) (t6 : Int) (t7 : List (List D)) (t8 : Bool) (t9 : Int) (t10 : List (List D)) (t11 : Bool) (t12 : Int) (t13 : List (List D)) (t14 : Bool) (t15 : Int) (t16 : List (List D)) (t17 : Bool) (t18 : Int) (t19 : List (List D)) (t20 : Bool) (t21 : Int) (t22 : List (List D)) (t23 : Bool) (t24 : Int) (t25 : List (List D)) (t26 : Bool) (t27 : Int) (t28 : List (List D)) (t29 : Bool) : Nat → ByteArray → Int → (ByteArray → Option R) → Option R
  | 0, _, _, _ => none
  | n + 1, out, k_, k0 => bif decide (k_ < 10) then bif within k_ 10 then bif decide ((cell 0 (elem k_.toNat [[D.int t, D.row t1, D.bool t2], [D.int t3, D.row t4, D.bool t5], [D.int t6, D.row t7, D.bool t8], [D.int t9, D.row t10, D.bool t11], [D.int t12, D.row t13, D.bool t14], [D.int t15, D.row t16, D.bool t17], [D.int t18, D.row t19, D.bool t20], [D.int t21, D.row t22, D.bool t23], [D.int t24, D.row t25, D.bool t26], [D.int t27, D.row t28, D.bool t29]])).toInt = 0) then (F29_58 fu t t1 t2 t3 t4 t5 t6 t7 t8 t9 t10 t11 t12 t13 t14 t15 t16 t17 t18 t19 t20 t21 t22 t23 t24 t25 t26 t27 t28 t29 n out (IntKind.i64.wrap (k_ + 1)) k0) else bif (cell 2 (elem k_.toNat [[D.int t, D.row t1, D.bool t2], [D.int t3, D.row t4, D.bool t5], [D.int t6, D.row t7, D.bool t8], [D.int t9, D.row t10, D.bool t11], [D.int t12, D.row t13, D.bool t14], [D.int t15, D.row t16, D.bool t17], [D.int t18, D.row t19, D.bool t20], [D.int t21, D.row t22, D.bool t23], [D.int t24, D.row t25, D.bool t26], [D.int t27, D.row t28, D.bool t29]])).toBool then bif fits (3 + (cell 1 (elem k_.toNat [[D.int t, D.row t1, D.bool t2], [D.int t3, D.row t4, D.bool t5], [D.int t6, D.row t7, D.bool t8], [D.int t9, D.row t10, D.bool t11], [D.int t12, D.row t13, D.bool t14], [D.int t15, D.row t16, D.bool t17], [D.int t18, D.row t19, D.bool t20], [D.int t21, D.row t22, D.bool t23], [D.int t24, D.row t25, D.bool t26], [D.int t27, D.row t28, D.bool t29]])).toRows.length) 8 then F42 fu ([[D.int k_], [D.int (cell 0 (elem k_.toNat [[D.int t, D.row t1, D.bool t2], [D.int t3, D.row t4, D.bool t5], [D.int t6, D.row t7, D.bool t8], [D.int t9, D.row t10, D.bool t11], [D.int t12, D.row t13, D.bool t14], [D.int t15, D.row t16, D.bool t17], [D.int t18, D.row t19, D.bool t20], [D.int t21, D.row t22, D.bool t23], [D.int t24, D.row t25, D.bool t26], [D.int t27, D.row t28, D.bool t29]])).toInt], [D.int 1]] ++ (cell 1 (elem k_.toNat [[D.int t, D.row t1, D.bool t2], [D.int t3, D.row t4, D.bool t5], [D.int t6, D.row t7, D.bool t8], [D.int t9, D.row t10, D.bool t11], [D.int t12, D.row t13, D.bool t14], [D.int t15, D.row t16, D.bool t17], [D.int t18, D.row t19, D.bool t20], [D.int t21, D.row t22, D.bool t23], [D.int t24, D.row t25, D.bool t26], [D.int t27, D.row t28, D.bool t29]])).toRows) fun o_0 => bif decide (↑(out.size + o_0.size) ≤ IntKind.i64.max) then bif decide (↑((out ++ o_0).size + (ByteArray.mk #[10]).size) ≤ IntKind.i64.max) then (F29_58 fu t t1 t2 t3 t4 t5 t6 t7 t8 t9 t10 t11 t12 t13 t14 t15 t16 t17 t18 t19 t20 t21 t22 t23 t24 t25 t26 t27 t28 t29 n (out ++ o_0 ++ (ByteArray.mk #[10])) (IntKind.i64.wrap (k_ + 1)) k0) else none else none else none else bif fits (3 + (cell 1 (elem k_.toNat [[D.int t, D.row t1, D.bool t2], [D.int t3, D.row t4, D.bool t5], [D.int t6, D.row t7, D.bool t8], [D.int t9, D.row t10, D.bool t11], [D.int t12, D.row t13, D.bool t14], [D.int t15, D.row t16, D.bool t17], [D.int t18, D.row t19, D.bool t20], [D.int t21, D.row t22, D.bool t23], [D.int t24, D.row t25, D.bool t26], [D.int t27, D.row t28, D.bool t29]])).toRows.length) 8 then F42 fu ([[D.int k_], [D.int (cell 0 (elem k_.toNat [[D.int t, D.row t1, D.bool t2], [D.int t3, D.row t4, D.bool t5], [D.int t6, D.row t7, D.bool t8], [D.int t9, D.row t10, D.bool t11], [D.int t12, D.row t13, D.bool t14], [D.int t15, D.row t16, D.bool t17], [D.int t18, D.row t19, D.bool t20], [D.int t21, D.row t22, D.bool t23], [D.int t24, D.row t25, D.bool t26], [D.int t27, D.row t28, D.bool t29]])).toInt], [D.int 0]] ++ (cell 1 (elem k_.toNat [[D.int t, D.row t1, D.bool t2], [D.int t3, D.row t4, D.bool t5], [D.int t6, D.row t7, D.bool t8], [D.int t9, D.row t10, D.bool t11], [D.int t12, D.row t13, D.bool t14], [D.int t15, D.row t16, D.bool t17], [D.int t18, D.row t19, D.bool t20], [D.int t21, D.row t22, D.bool t23], [D.int t24, D.row t25, D.bool t26], [D.int t27, D.row t28, D.bool t29]])).toRows) fun o_1 => bif decide (↑(out.size + o_1.size) ≤ IntKind.i64.max) then bif decide (↑((out ++ o_1).size + (ByteArray.mk #[10]).size) ≤ IntKind.i64.max) then (F29_58 fu t t1 t2 t3 t4 t5 t6 t7 t8 t9 t10 t11 t12 t13 t14 t15 t16 t17 t18 t19 t20 t21 t22 t23 t24 t25 t26 t27 t28 t29 n (out ++ o_1 ++ (ByteArray.mk #[10])) (IntKind.i64.wrap (k_ + 1)) k0) else none else none else none else none else (k0 out)

noncomputable def t29_58 (fu n : Nat) : ToldP := fun _ e s K => match e, s with
  | [.ptr 0 0, .str out, .int .i64 k_], [.obj (.int .i64 t :: .fz zq0 t1 false :: .bool t2 :: .int .i64 t3 :: .fz zq1 t4 false :: .bool t5 :: .int .i64 t6 :: .fz zq2 t7 false :: .bool t8 :: .int .i64 t9 :: .fz zq3 t10 false :: .bool t11 :: .int .i64 t12 :: .fz zq4 t13 false :: .bool t14 :: .int .i64 t15 :: .fz zq5 t16 false :: .bool t17 :: .int .i64 t18 :: .fz zq6 t19 false :: .bool t20 :: .int .i64 t21 :: .fz zq7 t22 false :: .bool t23 :: .int .i64 t24 :: .fz zq8 t25 false :: .bool t26 :: .int .i64 t27 :: .fz zq9 t28 false :: .bool t29 :: [])] => (match FT.sames zq0 ft0 with | true => (match FT.sames zq1 ft0 with | true => (match FT.sames zq2 ft0 with | true => (match FT.sames zq3 ft0 with | true => (match FT.sames zq4 ft0 with | true => (match FT.sames zq5 ft0 with | true => (match FT.sames zq6 ft0 with | true => (match FT.sames zq7 ft0 with | true => (match FT.sames zq8 ft0 with | true => (match FT.sames zq9 ft0 with | true => F29_58 fu t t1 t2 t3 t4 t5 t6 t7 t8 t9 t10 t11 t12 t13 t14 t15 t16 t17 t18 t19 t20 t21 t22 t23 t24 t25 t26 t27 t28 t29 n out k_ (fun o_ => K (.exit 0) (unpackM (bitsM 4 0x8) [.str o_]) []) | false => none) | false => none) | false => none) | false => none) | false => none) | false => none) | false => none) | false => none) | false => none) | false => none)
  | _, _ => none

noncomputable def pc29_58 (fu : Nat) : Nat → Option ToldP := fun _ => none
theorem e29_58 (fu n : Nat) (R : Type) (K : VExit → UEnv → USt → Option R) (out : ByteArray) (k_ : Int) (t : Int) (t1 : List (List D)) (t2 : Bool) (t3 : Int) (t4 : List (List D)) (t5 : Bool) (t6 : Int) (t7 : List (List D)) (t8 : Bool) (t9 : Int) (t10 : List (List D)) (t11 : Bool) (t12 : Int) (t13 : List (List D)) (t14 : Bool) (t15 : Int) (t16 : List (List D)) (t17 : Bool) (t18 : Int) (t19 : List (List D)) (t20 : Bool) (t21 : Int) (t22 : List (List D)) (t23 : Bool) (t24 : Int) (t25 : List (List D)) (t26 : Bool) (t27 : Int) (t28 : List (List D)) (t29 : Bool) :
    F29_58 fu t t1 t2 t3 t4 t5 t6 t7 t8 t9 t10 t11 t12 t13 t14 t15 t16 t17 t18 t19 t20 t21 t22 t23 t24 t25 t26 t27 t28 t29 (n + 1) out k_ (fun o_ => K (.exit 0) (unpackM (bitsM 4 0x8) [.str o_]) []) = uexec Tryd.prog (tb42 fu) 300 (pc29_58 fu) 116 (loopBody (codeAt code29 58)) (unpackM (bitsM 5 0x1a) [.ptr 0 0, .str out, .int .i64 k_]) [.obj (.int .i64 t :: .fz ft0 t1 false :: .bool t2 :: .int .i64 t3 :: .fz ft0 t4 false :: .bool t5 :: .int .i64 t6 :: .fz ft0 t7 false :: .bool t8 :: .int .i64 t9 :: .fz ft0 t10 false :: .bool t11 :: .int .i64 t12 :: .fz ft0 t13 false :: .bool t14 :: .int .i64 t15 :: .fz ft0 t16 false :: .bool t17 :: .int .i64 t18 :: .fz ft0 t19 false :: .bool t20 :: .int .i64 t21 :: .fz ft0 t22 false :: .bool t23 :: .int .i64 t24 :: .fz ft0 t25 false :: .bool t26 :: .int .i64 t27 :: .fz ft0 t28 false :: .bool t29 :: [])] (loopK 0 [.live (bitsM 5 0x1a), .gc, .fzC 0 1 ft0, .fzC 0 4 ft0, .fzC 0 7 ft0, .fzC 0 10 ft0, .fzC 0 13 ft0, .fzC 0 16 ft0, .fzC 0 19 ft0, .fzC 0 22 ft0, .fzC 0 25 ft0, .fzC 0 28 ft0, .gc] [.live (bitsM 4 0xc), .gc] (pkP (bitsM 5 0x1a) (t29_58 fu n)) K) := by kernel_rfl

theorem p29_58 (fu : Nat) : SoundPc Tryd.prog 0 code29 (pc29_58 fu) := SoundPc.none _ _ _
theorem s29_58 (fu : Nat) : ∀ n, SoundP Tryd.prog 0 (.loop (loopBody (codeAt code29 58))) (pkP (bitsM 5 0x1a) (t29_58 fu n)) := by
  refine loopP_sound (gin := [.live (bitsM 5 0x1a), .gc, .fzC 0 1 ft0, .fzC 0 4 ft0, .fzC 0 7 ft0, .fzC 0 10 ft0, .fzC 0 13 ft0, .fzC 0 16 ft0, .fzC 0 19 ft0, .fzC 0 22 ft0, .fzC 0 25 ft0, .fzC 0 28 ft0, .gc]) (gout := [.live (bitsM 4 0xc), .gc]) (k := 300) (tb42_sound fu) (p29_58 fu) (by decide) a29_58 (fun R e s K => ?_) (fun n R e s K r h => ?_)
  · unfold t29_58; repeat' split
    all_goals rfl
  · unfold t29_58 at h; split at h
    case h_2 => cases h
    split at h
    case h_2 => cases h
    rename_i hq
    have hq := FT.sames_eq _ _ hq
    subst hq
    split at h
    case h_2 => cases h
    rename_i hq
    have hq := FT.sames_eq _ _ hq
    subst hq
    split at h
    case h_2 => cases h
    rename_i hq
    have hq := FT.sames_eq _ _ hq
    subst hq
    split at h
    case h_2 => cases h
    rename_i hq
    have hq := FT.sames_eq _ _ hq
    subst hq
    split at h
    case h_2 => cases h
    rename_i hq
    have hq := FT.sames_eq _ _ hq
    subst hq
    split at h
    case h_2 => cases h
    rename_i hq
    have hq := FT.sames_eq _ _ hq
    subst hq
    split at h
    case h_2 => cases h
    rename_i hq
    have hq := FT.sames_eq _ _ hq
    subst hq
    split at h
    case h_2 => cases h
    rename_i hq
    have hq := FT.sames_eq _ _ hq
    subst hq
    split at h
    case h_2 => cases h
    rename_i hq
    have hq := FT.sames_eq _ _ hq
    subst hq
    split at h
    case h_2 => cases h
    rename_i hq
    have hq := FT.sames_eq _ _ hq
    subst hq
    exact (e29_58 fu n R K _ _ _ _ _ _ _ _ _ _ _ _ _ _ _ _ _ _ _ _ _ _ _ _ _ _ _ _ _ _ _ _).symm.trans h


noncomputable def Fb29 {R : Type} (fu : Nat) (t : List D) (k0 : ByteArray → Option R) : Option R :=
  F29_58 fu (cell 0 t).toInt (cell 1 t).toRows (cell 2 t).toBool (cell 3 t).toInt (cell 4 t).toRows (cell 5 t).toBool (cell 6 t).toInt (cell 7 t).toRows (cell 8 t).toBool (cell 9 t).toInt (cell 10 t).toRows (cell 11 t).toBool (cell 12 t).toInt (cell 13 t).toRows (cell 14 t).toBool (cell 15 t).toInt (cell 16 t).toRows (cell 17 t).toBool (cell 18 t).toInt (cell 19 t).toRows (cell 20 t).toBool (cell 21 t).toInt (cell 22 t).toRows (cell 23 t).toBool (cell 24 t).toInt (cell 25 t).toRows (cell 26 t).toBool (cell 27 t).toInt (cell 28 t).toRows (cell 29 t).toBool fu (ByteArray.mk #[]) 0 fun o_0 => (k0 o_0)

noncomputable def F29 {R : Type} (fu : Nat) (t : List D) (k0 : ByteArray → Option R) : Option R := shut (@Fb29 R) fu t k0
theorem F29_eq {R : Type} (fu : Nat) (t : List D) (k0 : ByteArray → Option R) : F29 fu t k0 = Fb29 fu t k0 := by unfold F29; rw [shut_eq]

noncomputable def pc29 (fu : Nat) : Nat → Option ToldP := fun p => match Nat.beq p 58 with | true => some (ghP 0 [.live (bitsM 5 0x1a), .gc, .fzC 0 1 ft0, .fzC 0 4 ft0, .fzC 0 7 ft0, .fzC 0 10 ft0, .fzC 0 13 ft0, .fzC 0 16 ft0, .fzC 0 19 ft0, .fzC 0 22 ft0, .fzC 0 25 ft0, .fzC 0 28 ft0, .gc] (pkP (bitsM 5 0x1a) (t29_58 fu fu))) | false => none
noncomputable def t29 (fu : Nat) : ToldF := fun _ args s K => match args, s with
  | [.agg (.int .i64 q :: .fz zq0 q1 false :: .bool q2 :: .int .i64 q3 :: .fz zq1 q4 false :: .bool q5 :: .int .i64 q6 :: .fz zq2 q7 false :: .bool q8 :: .int .i64 q9 :: .fz zq3 q10 false :: .bool q11 :: .int .i64 q12 :: .fz zq4 q13 false :: .bool q14 :: .int .i64 q15 :: .fz zq5 q16 false :: .bool q17 :: .int .i64 q18 :: .fz zq6 q19 false :: .bool q20 :: .int .i64 q21 :: .fz zq7 q22 false :: .bool q23 :: .int .i64 q24 :: .fz zq8 q25 false :: .bool q26 :: .int .i64 q27 :: .fz zq9 q28 false :: .bool q29 :: [])], [] => (match FT.sames zq0 ft0 with | true => (match FT.sames zq1 ft0 with | true => (match FT.sames zq2 ft0 with | true => (match FT.sames zq3 ft0 with | true => (match FT.sames zq4 ft0 with | true => (match FT.sames zq5 ft0 with | true => (match FT.sames zq6 ft0 with | true => (match FT.sames zq7 ft0 with | true => (match FT.sames zq8 ft0 with | true => (match FT.sames zq9 ft0 with | true => F29 fu ((D.int q :: D.row q1 :: D.bool q2 :: D.int q3 :: D.row q4 :: D.bool q5 :: D.int q6 :: D.row q7 :: D.bool q8 :: D.int q9 :: D.row q10 :: D.bool q11 :: D.int q12 :: D.row q13 :: D.bool q14 :: D.int q15 :: D.row q16 :: D.bool q17 :: D.int q18 :: D.row q19 :: D.bool q20 :: D.int q21 :: D.row q22 :: D.bool q23 :: D.int q24 :: D.row q25 :: D.bool q26 :: D.int q27 :: D.row q28 :: D.bool q29 :: [])) (fun o_ => K (.str o_) []) | false => none) | false => none) | false => none) | false => none) | false => none) | false => none) | false => none) | false => none) | false => none) | false => none)
  | _, _ => none

theorem e29 (R : Type) (K : UV → USt → Option R) (fu : Nat) (q : Int) (q1 : List (List D)) (q2 : Bool) (q3 : Int) (q4 : List (List D)) (q5 : Bool) (q6 : Int) (q7 : List (List D)) (q8 : Bool) (q9 : Int) (q10 : List (List D)) (q11 : Bool) (q12 : Int) (q13 : List (List D)) (q14 : Bool) (q15 : Int) (q16 : List (List D)) (q17 : Bool) (q18 : Int) (q19 : List (List D)) (q20 : Bool) (q21 : Int) (q22 : List (List D)) (q23 : Bool) (q24 : Int) (q25 : List (List D)) (q26 : Bool) (q27 : Int) (q28 : List (List D)) (q29 : Bool) :
    F29 fu ((D.int q :: D.row q1 :: D.bool q2 :: D.int q3 :: D.row q4 :: D.bool q5 :: D.int q6 :: D.row q7 :: D.bool q8 :: D.int q9 :: D.row q10 :: D.bool q11 :: D.int q12 :: D.row q13 :: D.bool q14 :: D.int q15 :: D.row q16 :: D.bool q17 :: D.int q18 :: D.row q19 :: D.bool q20 :: D.int q21 :: D.row q22 :: D.bool q23 :: D.int q24 :: D.row q25 :: D.bool q26 :: D.int q27 :: D.row q28 :: D.bool q29 :: [])) (fun o_ => K (.str o_) []) = ufun Tryd.prog ⟨(tb42 fu), pc29 fu⟩ 300 29 [.agg (.int .i64 q :: .fz ft0 q1 false :: .bool q2 :: .int .i64 q3 :: .fz ft0 q4 false :: .bool q5 :: .int .i64 q6 :: .fz ft0 q7 false :: .bool q8 :: .int .i64 q9 :: .fz ft0 q10 false :: .bool q11 :: .int .i64 q12 :: .fz ft0 q13 false :: .bool q14 :: .int .i64 q15 :: .fz ft0 q16 false :: .bool q17 :: .int .i64 q18 :: .fz ft0 q19 false :: .bool q20 :: .int .i64 q21 :: .fz ft0 q22 false :: .bool q23 :: .int .i64 q24 :: .fz ft0 q25 false :: .bool q26 :: .int .i64 q27 :: .fz ft0 q28 false :: .bool q29 :: [])] [] (funK 0 [.gc] K) := (F29_eq fu _ _).trans (by kernel_rfl)

theorem s29 (fu : Nat) : Tells Tryd.prog 29 (t29 fu) := by
  refine ufun_sound (T := ⟨(tb42 fu), pc29 fu⟩) (m := 0) (gout := [.gc]) (k := 300) (tb42_sound fu) (fun fn body hf hb => ?_) (fun R args s K r h => ?_) (fun R args s K r h => ?_)
  · have hc : body = code29 := by
      have h1 : Tryd.prog.funcs[29]? = some Tryd.f29 := rfl
      rw [h1] at hf; cases hf
      have h2 : Tryd.f29.body = some code29 := rfl
      rw [h2] at hb; cases hb; rfl
    subst hc
    exact fun p told h b hb => by
      replace h : pc29 fu p = some told := h
      unfold pc29 at h
      split at h
      · rename_i hp
        cases h
        have := Nat.eq_of_beq_eq_true hp
        subst this
        rw [a29_58] at hb
        cases hb
        exact ghP_sound (s29_58 fu _)
      ·
        cases h

  · unfold t29 at h; split at h
    · rfl
    · cases h
  · unfold t29 at h; split at h
    case h_2 => cases h
    split at h
    case h_2 => cases h
    rename_i hq
    have hq := FT.sames_eq _ _ hq
    subst hq
    split at h
    case h_2 => cases h
    rename_i hq
    have hq := FT.sames_eq _ _ hq
    subst hq
    split at h
    case h_2 => cases h
    rename_i hq
    have hq := FT.sames_eq _ _ hq
    subst hq
    split at h
    case h_2 => cases h
    rename_i hq
    have hq := FT.sames_eq _ _ hq
    subst hq
    split at h
    case h_2 => cases h
    rename_i hq
    have hq := FT.sames_eq _ _ hq
    subst hq
    split at h
    case h_2 => cases h
    rename_i hq
    have hq := FT.sames_eq _ _ hq
    subst hq
    split at h
    case h_2 => cases h
    rename_i hq
    have hq := FT.sames_eq _ _ hq
    subst hq
    split at h
    case h_2 => cases h
    rename_i hq
    have hq := FT.sames_eq _ _ hq
    subst hq
    split at h
    case h_2 => cases h
    rename_i hq
    have hq := FT.sames_eq _ _ hq
    subst hq
    split at h
    case h_2 => cases h
    rename_i hq
    have hq := FT.sames_eq _ _ hq
    subst hq
    exact (e29 R K fu _ _ _ _ _ _ _ _ _ _ _ _ _ _ _ _ _ _ _ _ _ _ _ _ _ _ _ _ _ _).symm.trans h

noncomputable def tb29 (fu : Nat) : FuncId → Option (Bool × ToldF) := fun f => match Nat.beq f 29 with
  | true => some (false, ghG [.fzP 0 [1] ft0, .fzP 0 [4] ft0, .fzP 0 [7] ft0, .fzP 0 [10] ft0, .fzP 0 [13] ft0, .fzP 0 [16] ft0, .fzP 0 [19] ft0, .fzP 0 [22] ft0, .fzP 0 [25] ft0, .fzP 0 [28] ft0] (t29 fu))
  | false => (tb42 fu) f
theorem tb29_sound (fu : Nat) : SoundF' Tryd.prog (tb29 fu) := by
  intro f own told h
  unfold tb29 at h
  split at h
  · rename_i hb
    cases h
    have := Nat.eq_of_beq_eq_true hb
    subst this
    exact ghG_sound (s29 fu)
  · exact (tb42_sound fu) f own told h

end Go.Proofs.YtlakjegifgonbaaDoor.V

/- Printed by ugen: daisychain/daisychainref13.Do -/
namespace Go.Proofs.YtlakjegifgonbaaDoor.V
set_option maxRecDepth 100000
set_option maxHeartbeats 4000000


noncomputable def code12 : Code := match Tryd.f12.body with | some c => c | none => .skip
theorem a12_523610 : codeAt code12 523610 = some (.loop (loopBody (codeAt code12 523610))) := by kernel_rfl
noncomputable def F12_523610 {R : Type} (fu : Nat) (at_ : Int) (last : Int) (c1 : List (List D)) (c2 : Bool) : Nat → Int → Int → (Int → Option R) → Option R
  | 0, _, _, _ => none
  | n + 1, left, i, k0 => bif decide (i < ofN c1.length) then bif !decide (i = at_) then bif c2 then bif !decide (i = last) then (F12_523610 fu at_ last c1 c2 n (IntKind.i64.wrap (left + 1)) (IntKind.i64.wrap (i + 1)) k0) else (F12_523610 fu at_ last c1 c2 n left (IntKind.i64.wrap (i + 1)) k0) else (F12_523610 fu at_ last c1 c2 n (IntKind.i64.wrap (left + 1)) (IntKind.i64.wrap (i + 1)) k0) else (F12_523610 fu at_ last c1 c2 n left (IntKind.i64.wrap (i + 1)) k0) else (k0 left)

noncomputable def t12_523610 (fu n : Nat) : ToldP := fun _ e s K => match e, s with
  | [.ptr 0 0, .ptr 1 0, .ptr 2 0, .ptr 3 0, .int .i64 at_, .int .i64 last, .int .i64 left, .int .i64 i], [.obj (.int .i64 t :: .fz zq0 t1 false :: .bool t2 :: .int .i64 t3 :: .fz zq1 t4 false :: .bool t5 :: .int .i64 t6 :: .fz zq2 t7 false :: .bool t8 :: .int .i64 t9 :: .fz zq3 t10 false :: .bool t11 :: .int .i64 t12 :: .fz zq4 t13 false :: .bool t14 :: .int .i64 t15 :: .fz zq5 t16 false :: .bool t17 :: .int .i64 t18 :: .fz zq6 t19 false :: .bool t20 :: .int .i64 t21 :: .fz zq7 t22 false :: .bool t23 :: .int .i64 t24 :: .fz zq8 t25 false :: .bool t26 :: .int .i64 t27 :: .fz zq9 t28 false :: .bool t29 :: []), .obj [.int .i64 ob, .int .i64 ob1, .int .i64 ob2, .int .i64 ob3, .fz zq10 ob4 false], .obj (.int .i64 x :: .nilslice :: .bool x1 :: .int .i64 x2 :: .nilslice :: .bool x3 :: .int .i64 x4 :: .nilslice :: .bool x5 :: .int .i64 x6 :: .nilslice :: .bool x7 :: .int .i64 x8 :: .nilslice :: .bool x9 :: .int .i64 x10 :: .nilslice :: .bool x11 :: .int .i64 x12 :: .nilslice :: .bool x13 :: .int .i64 x14 :: .nilslice :: .bool x15 :: .int .i64 x16 :: .nilslice :: .bool x17 :: .int .i64 x18 :: .nilslice :: .bool x19 :: []), .obj [.int .i64 c, .fz zq11 c1 false, .bool c2]] => (match FT.sames zq0 ft0 with | true => (match FT.sames zq1 ft0 with | true => (match FT.sames zq2 ft0 with | true => (match FT.sames zq3 ft0 with | true => (match FT.sames zq4 ft0 with | true => (match FT.sames zq5 ft0 with | true => (match FT.sames zq6 ft0 with | true => (match FT.sames zq7 ft0 with | true => (match FT.sames zq8 ft0 with | true => (match FT.sames zq9 ft0 with | true => (match FT.sames zq10 ft0 with | true => (match FT.sames zq11 ft0 with | true => F12_523610 fu at_ last c1 c2 n left i (fun o_ => K (.exit 1) (unpackM (bitsM 10 0x3dc) [.ptr 0 0, .ptr 1 0, .ptr 2 0, .ptr 3 0, .int .i64 (at_), .int .i64 (last), .int .i64 o_]) [.obj (.int .i64 (t) :: .fz ft0 (t1) false :: .bool (t2) :: .int .i64 (t3) :: .fz ft0 (t4) false :: .bool (t5) :: .int .i64 (t6) :: .fz ft0 (t7) false :: .bool (t8) :: .int .i64 (t9) :: .fz ft0 (t10) false :: .bool (t11) :: .int .i64 (t12) :: .fz ft0 (t13) false :: .bool (t14) :: .int .i64 (t15) :: .fz ft0 (t16) false :: .bool (t17) :: .int .i64 (t18) :: .fz ft0 (t19) false :: .bool (t20) :: .int .i64 (t21) :: .fz ft0 (t22) false :: .bool (t23) :: .int .i64 (t24) :: .fz ft0 (t25) false :: .bool (t26) :: .int .i64 (t27) :: .fz ft0 (t28) false :: .bool (t29) :: []), .obj [.int .i64 (ob), .int .i64 (ob1), .int .i64 (ob2), .int .i64 (ob3), .fz ft0 (ob4) false], .obj (.int .i64 (x) :: .nilslice :: .bool (x1) :: .int .i64 (x2) :: .nilslice :: .bool (x3) :: .int .i64 (x4) :: .nilslice :: .bool (x5) :: .int .i64 (x6) :: .nilslice :: .bool (x7) :: .int .i64 (x8) :: .nilslice :: .bool (x9) :: .int .i64 (x10) :: .nilslice :: .bool (x11) :: .int .i64 (x12) :: .nilslice :: .bool (x13) :: .int .i64 (x14) :: .nilslice :: .bool (x15) :: .int .i64 (x16) :: .nilslice :: .bool (x17) :: .int .i64 (x18) :: .nilslice :: .bool (x19) :: []), .obj [.int .i64 (c), .fz ft0 (c1) false, .bool (c2)]]) | false => none) | false => none) | false => none) | false => none) | false => none) | false => none) | false => none) | false => none) | false => none) | false => none) | false => none) | false => none)
  | _, _ => none

noncomputable def pc12_523610 (fu : Nat) : Nat → Option ToldP := fun _ => none
theorem e12_523610 (fu n : Nat) (R : Type) (K : VExit → UEnv → USt → Option R) (at_ : Int) (last : Int) (left : Int) (i : Int) (t : Int) (t1 : List (List D)) (t2 : Bool) (t3 : Int) (t4 : List (List D)) (t5 : Bool) (t6 : Int) (t7 : List (List D)) (t8 : Bool) (t9 : Int) (t10 : List (List D)) (t11 : Bool) (t12 : Int) (t13 : List (List D)) (t14 : Bool) (t15 : Int) (t16 : List (List D)) (t17 : Bool) (t18 : Int) (t19 : List (List D)) (t20 : Bool) (t21 : Int) (t22 : List (List D)) (t23 : Bool) (t24 : Int) (t25 : List (List D)) (t26 : Bool) (t27 : Int) (t28 : List (List D)) (t29 : Bool) (ob : Int) (ob1 : Int) (ob2 : Int) (ob3 : Int) (ob4 : List (List D)) (x : Int) (x1 : Bool) (x2 : Int) (x3 : Bool) (x4 : Int) (x5 : Bool) (x6 : Int) (x7 : Bool) (x8 : Int) (x9 : Bool) (x10 : Int) (x11 : Bool) (x12 : Int) (x13 : Bool) (x14 : Int) (x15 : Bool) (x16 : Int) (x17 : Bool) (x18 : Int) (x19 : Bool) (c : Int) (c1 : List (List D)) (c2 : Bool) :
    F12_523610 fu at_ last c1 c2 (n + 1) left i (fun o_ => K (.exit 1) (unpackM (bitsM 10 0x3dc) [.ptr 0 0, .ptr 1 0, .ptr 2 0, .ptr 3 0, .int .i64 (at_), .int .i64 (last), .int .i64 o_]) [.obj (.int .i64 (t) :: .fz ft0 (t1) false :: .bool (t2) :: .int .i64 (t3) :: .fz ft0 (t4) false :: .bool (t5) :: .int .i64 (t6) :: .fz ft0 (t7) false :: .bool (t8) :: .int .i64 (t9) :: .fz ft0 (t10) false :: .bool (t11) :: .int .i64 (t12) :: .fz ft0 (t13) false :: .bool (t14) :: .int .i64 (t15) :: .fz ft0 (t16) false :: .bool (t17) :: .int .i64 (t18) :: .fz ft0 (t19) false :: .bool (t20) :: .int .i64 (t21) :: .fz ft0 (t22) false :: .bool (t23) :: .int .i64 (t24) :: .fz ft0 (t25) false :: .bool (t26) :: .int .i64 (t27) :: .fz ft0 (t28) false :: .bool (t29) :: []), .obj [.int .i64 (ob), .int .i64 (ob1), .int .i64 (ob2), .int .i64 (ob3), .fz ft0 (ob4) false], .obj (.int .i64 (x) :: .nilslice :: .bool (x1) :: .int .i64 (x2) :: .nilslice :: .bool (x3) :: .int .i64 (x4) :: .nilslice :: .bool (x5) :: .int .i64 (x6) :: .nilslice :: .bool (x7) :: .int .i64 (x8) :: .nilslice :: .bool (x9) :: .int .i64 (x10) :: .nilslice :: .bool (x11) :: .int .i64 (x12) :: .nilslice :: .bool (x13) :: .int .i64 (x14) :: .nilslice :: .bool (x15) :: .int .i64 (x16) :: .nilslice :: .bool (x17) :: .int .i64 (x18) :: .nilslice :: .bool (x19) :: []), .obj [.int .i64 (c), .fz ft0 (c1) false, .bool (c2)]]) = uexec Tryd.prog (tb29 fu) 300 (pc12_523610 fu) 1047220 (loopBody (codeAt code12 523610)) (unpackM (bitsM 11 0x7dc) [.ptr 0 0, .ptr 1 0, .ptr 2 0, .ptr 3 0, .int .i64 at_, .int .i64 last, .int .i64 left, .int .i64 i]) [.obj (.int .i64 t :: .fz ft0 t1 false :: .bool t2 :: .int .i64 t3 :: .fz ft0 t4 false :: .bool t5 :: .int .i64 t6 :: .fz ft0 t7 false :: .bool t8 :: .int .i64 t9 :: .fz ft0 t10 false :: .bool t11 :: .int .i64 t12 :: .fz ft0 t13 false :: .bool t14 :: .int .i64 t15 :: .fz ft0 t16 false :: .bool t17 :: .int .i64 t18 :: .fz ft0 t19 false :: .bool t20 :: .int .i64 t21 :: .fz ft0 t22 false :: .bool t23 :: .int .i64 t24 :: .fz ft0 t25 false :: .bool t26 :: .int .i64 t27 :: .fz ft0 t28 false :: .bool t29 :: []), .obj [.int .i64 ob, .int .i64 ob1, .int .i64 ob2, .int .i64 ob3, .fz ft0 ob4 false], .obj (.int .i64 x :: .nilslice :: .bool x1 :: .int .i64 x2 :: .nilslice :: .bool x3 :: .int .i64 x4 :: .nilslice :: .bool x5 :: .int .i64 x6 :: .nilslice :: .bool x7 :: .int .i64 x8 :: .nilslice :: .bool x9 :: .int .i64 x10 :: .nilslice :: .bool x11 :: .int .i64 x12 :: .nilslice :: .bool x13 :: .int .i64 x14 :: .nilslice :: .bool x15 :: .int .i64 x16 :: .nilslice :: .bool x17 :: .int .i64 x18 :: .nilslice :: .bool x19 :: []), .obj [.int .i64 c, .fz ft0 c1 false, .bool c2]] (loopK 0 [.live (bitsM 11 0x7dc), .gc, .fzC 0 1 ft0, .fzC 0 4 ft0, .fzC 0 7 ft0, .fzC 0 10 ft0, .fzC 0 13 ft0, .fzC 0 16 ft0, .fzC 0 19 ft0, .fzC 0 22 ft0, .fzC 0 25 ft0, .fzC 0 28 ft0, .fzC 1 4 ft0, .fzC 3 1 ft0, .gc] [.live (bitsM 10 0x3fc), .gc] (pkP (bitsM 11 0x7dc) (t12_523610 fu n)) K) := by kernel_rfl

theorem p12_523610 (fu : Nat) : SoundPc Tryd.prog 0 code12 (pc12_523610 fu) := SoundPc.none _ _ _
theorem s12_523610 (fu : Nat) : ∀ n, SoundP Tryd.prog 0 (.loop (loopBody (codeAt code12 523610))) (pkP (bitsM 11 0x7dc) (t12_523610 fu n)) := by
  refine loopP_sound (gin := [.live (bitsM 11 0x7dc), .gc, .fzC 0 1 ft0, .fzC 0 4 ft0, .fzC 0 7 ft0, .fzC 0 10 ft0, .fzC 0 13 ft0, .fzC 0 16 ft0, .fzC 0 19 ft0, .fzC 0 22 ft0, .fzC 0 25 ft0, .fzC 0 28 ft0, .fzC 1 4 ft0, .fzC 3 1 ft0, .gc]) (gout := [.live (bitsM 10 0x3fc), .gc]) (k := 300) (tb29_sound fu) (p12_523610 fu) (by decide) a12_523610 (fun R e s K => ?_) (fun n R e s K r h => ?_)
  · unfold t12_523610; repeat' split
    all_goals rfl
  · unfold t12_523610 at h; split at h
    case h_2 => cases h
    split at h
    case h_2 => cases h
    rename_i hq
    have hq := FT.sames_eq _ _ hq
    subst hq
    split at h
    case h_2 => cases h
    rename_i hq
    have hq := FT.sames_eq _ _ hq
    subst hq
    split at h
    case h_2 => cases h
    rename_i hq
    have hq := FT.sames_eq _ _ hq
    subst hq
    split at h
    case h_2 => cases h
    rename_i hq
    have hq := FT.sames_eq _ _ hq
    subst hq
    split at h
    case h_2 => cases h
    rename_i hq
    have hq := FT.sames_eq _ _ hq
    subst hq
    split at h
    case h_2 => cases h
    rename_i hq
    have hq := FT.sames_eq _ _ hq
    subst hq
    split at h
    case h_2 => cases h
    rename_i hq
    have hq := FT.sames_eq _ _ hq
    subst hq
    split at h
    case h_2 => cases h
    rename_i hq
    have hq := FT.sames_eq _ _ hq
    subst hq
    split at h
    case h_2 => cases h
    rename_i hq
    have hq := FT.sames_eq _ _ hq
    subst hq
    split at h
    case h_2 => cases h
    rename_i hq
    have hq := FT.sames_eq _ _ hq
    subst hq
    split at h
    case h_2 => cases h
    rename_i hq
    have hq := FT.sames_eq _ _ hq
    subst hq
    split at h
    case h_2 => cases h
    rename_i hq
    have hq := FT.sames_eq _ _ hq
    subst hq
    exact (e12_523610 fu n R K _ _ _ _ _ _ _ _ _ _ _ _ _ _ _ _ _ _ _ _ _ _ _ _ _ _ _ _ _ _ _ _ _ _ _ _ _ _ _ _ _ _ _ _ _ _ _ _ _ _ _ _ _ _ _ _ _ _ _ _ _ _).symm.trans h


noncomputable def rowsA30 (x : List D) : List (List D) := [[D.int (cell 0 x).toInt, D.row (cell 1 x).toRows, D.bool (cell 2 x).toBool], [D.int (cell 3 x).toInt, D.row (cell 4 x).toRows, D.bool (cell 5 x).toBool], [D.int (cell 6 x).toInt, D.row (cell 7 x).toRows, D.bool (cell 8 x).toBool], [D.int (cell 9 x).toInt, D.row (cell 10 x).toRows, D.bool (cell 11 x).toBool], [D.int (cell 12 x).toInt, D.row (cell 13 x).toRows, D.bool (cell 14 x).toBool], [D.int (cell 15 x).toInt, D.row (cell 16 x).toRows, D.bool (cell 17 x).toBool], [D.int (cell 18 x).toInt, D.row (cell 19 x).toRows, D.bool (cell 20 x).toBool], [D.int (cell 21 x).toInt, D.row (cell 22 x).toRows, D.bool (cell 23 x).toBool], [D.int (cell 24 x).toInt, D.row (cell 25 x).toRows, D.bool (cell 26 x).toBool], [D.int (cell 27 x).toInt, D.row (cell 28 x).toRows, D.bool (cell 29 x).toBool]]
noncomputable def cellsA30 (x : List (List D)) : List D := D.int ((cell 0 (elem 0 x)).toInt) :: D.row ((cell 1 (elem 0 x)).toRows) :: D.bool ((cell 2 (elem 0 x)).toBool) :: D.int ((cell 0 (elem 1 x)).toInt) :: D.row ((cell 1 (elem 1 x)).toRows) :: D.bool ((cell 2 (elem 1 x)).toBool) :: D.int ((cell 0 (elem 2 x)).toInt) :: D.row ((cell 1 (elem 2 x)).toRows) :: D.bool ((cell 2 (elem 2 x)).toBool) :: D.int ((cell 0 (elem 3 x)).toInt) :: D.row ((cell 1 (elem 3 x)).toRows) :: D.bool ((cell 2 (elem 3 x)).toBool) :: D.int ((cell 0 (elem 4 x)).toInt) :: D.row ((cell 1 (elem 4 x)).toRows) :: D.bool ((cell 2 (elem 4 x)).toBool) :: D.int ((cell 0 (elem 5 x)).toInt) :: D.row ((cell 1 (elem 5 x)).toRows) :: D.bool ((cell 2 (elem 5 x)).toBool) :: D.int ((cell 0 (elem 6 x)).toInt) :: D.row ((cell 1 (elem 6 x)).toRows) :: D.bool ((cell 2 (elem 6 x)).toBool) :: D.int ((cell 0 (elem 7 x)).toInt) :: D.row ((cell 1 (elem 7 x)).toRows) :: D.bool ((cell 2 (elem 7 x)).toBool) :: D.int ((cell 0 (elem 8 x)).toInt) :: D.row ((cell 1 (elem 8 x)).toRows) :: D.bool ((cell 2 (elem 8 x)).toBool) :: D.int ((cell 0 (elem 9 x)).toInt) :: D.row ((cell 1 (elem 9 x)).toRows) :: D.bool ((cell 2 (elem 9 x)).toBool) :: []
noncomputable def Fb12 {R : Type} (fu : Nat) (t : List D) (o_ : List D) (k0 : (List D) → Int → Option R) : Option R :=
  bif decide ((cell 0 o_).toInt < 0) then (k0 t 1) else bif decide (3 < (cell 0 o_).toInt) then (k0 t 1) else bif decide ((cell 1 o_).toInt < 0) then (k0 t 1) else bif decide (9 < (cell 1 o_).toInt) then (k0 t 1) else bif within (cell 1 o_).toInt 10 then bif decide ((cell 0 o_).toInt = 0) then bif decide (0 < (cell 0 (elem (cell 1 o_).toInt.toNat (rowsA30 t))).toInt) then (k0 t 7) else F24 fu (cell 4 o_).toRows fun o_0 => bif !o_0 then (k0 t 1) else bif fits (0 + (cell 4 o_).toRows.length) 8 then bif within (cell 1 o_).toInt 10 then (k0 ((cellsA30 (putAt (rowsA30 t) (cell 1 o_).toInt.toNat 0 [D.int 1, D.row (cell 4 o_).toRows, D.bool false]))) 0) else none else none else bif decide ((cell 0 (elem (cell 1 o_).toInt.toNat (rowsA30 t))).toInt = 0) then (k0 t 6) else bif !decide ((cell 0 (elem (cell 1 o_).toInt.toNat (rowsA30 t))).toInt = (cell 2 o_).toInt) then (k0 t 11) else F21 fu (cell 1 (elem (cell 1 o_).toInt.toNat (rowsA30 t))).toRows (cell 3 o_).toInt fun o_1 => bif decide ((cell 0 o_).toInt = 1) then bif decide (o_1 < 0) then (k0 t 6) else F12_523610 fu o_1 (IntKind.i64.wrap (ofN (cell 1 (elem (cell 1 o_).toInt.toNat (rowsA30 t))).toRows.length - 1)) (cell 1 (elem (cell 1 o_).toInt.toNat (rowsA30 t))).toRows (cell 2 (elem (cell 1 o_).toInt.toNat (rowsA30 t))).toBool fu 0 0 fun o_2 => bif decide (o_2 = 0) then (k0 t 9) else bif decide ((0 : Int) ≤ 0 ∧ 0 ≤ o_1) && upTo o_1 (cell 1 (elem (cell 1 o_).toInt.toNat (rowsA30 t))).toRows.length then bif fits (0 + (part (cell 1 (elem (cell 1 o_).toInt.toNat (rowsA30 t))).toRows 0 o_1.toNat).length) 8 then bif decide (0 ≤ IntKind.i64.wrap (o_1 + 1) ∧ IntKind.i64.wrap (o_1 + 1) ≤ ofN (cell 1 (elem (cell 1 o_).toInt.toNat (rowsA30 t))).toRows.length) && upTo (ofN (cell 1 (elem (cell 1 o_).toInt.toNat (rowsA30 t))).toRows.length) (cell 1 (elem (cell 1 o_).toInt.toNat (rowsA30 t))).toRows.length then bif fits ((part (cell 1 (elem (cell 1 o_).toInt.toNat (rowsA30 t))).toRows 0 o_1.toNat).length + (part (cell 1 (elem (cell 1 o_).toInt.toNat (rowsA30 t))).toRows (IntKind.i64.wrap (o_1 + 1)).toNat (ofN (cell 1 (elem (cell 1 o_).toInt.toNat (rowsA30 t))).toRows.length).toNat).length) 8 then bif (cell 2 (elem (cell 1 o_).toInt.toNat (rowsA30 t))).toBool then bif within (cell 1 o_).toInt 10 then (k0 ((cellsA30 (putAt (rowsA30 t) (cell 1 o_).toInt.toNat 0 [D.int (IntKind.i64.wrap ((cell 0 (elem (cell 1 o_).toInt.toNat (rowsA30 t))).toInt + 1)), D.row (part (cell 1 (elem (cell 1 o_).toInt.toNat (rowsA30 t))).toRows 0 o_1.toNat ++ part (cell 1 (elem (cell 1 o_).toInt.toNat (rowsA30 t))).toRows (IntKind.i64.wrap (o_1 + 1)).toNat (ofN (cell 1 (elem (cell 1 o_).toInt.toNat (rowsA30 t))).toRows.length).toNat), D.bool !decide (o_1 = IntKind.i64.wrap (ofN (cell 1 (elem (cell 1 o_).toInt.toNat (rowsA30 t))).toRows.length - 1))]))) 0) else none else bif within (cell 1 o_).toInt 10 then (k0 ((cellsA30 (putAt (rowsA30 t) (cell 1 o_).toInt.toNat 0 [D.int (IntKind.i64.wrap ((cell 0 (elem (cell 1 o_).toInt.toNat (rowsA30 t))).toInt + 1)), D.row (part (cell 1 (elem (cell 1 o_).toInt.toNat (rowsA30 t))).toRows 0 o_1.toNat ++ part (cell 1 (elem (cell 1 o_).toInt.toNat (rowsA30 t))).toRows (IntKind.i64.wrap (o_1 + 1)).toNat (ofN (cell 1 (elem (cell 1 o_).toInt.toNat (rowsA30 t))).toRows.length).toNat), D.bool false]))) 0) else none else none else none else none else none else bif decide ((cell 0 o_).toInt = 2) then bif decide ((cell 3 o_).toInt < 0) then (k0 t 1) else bif decide (99 < (cell 3 o_).toInt) then (k0 t 1) else bif decide (0 ≤ o_1) then (k0 t 7) else bif (cell 2 (elem (cell 1 o_).toInt.toNat (rowsA30 t))).toBool then (k0 t 9) else bif decide (6 < ofN (cell 1 (elem (cell 1 o_).toInt.toNat (rowsA30 t))).toRows.length) then (k0 t 9) else bif fits (0 + (cell 1 (elem (cell 1 o_).toInt.toNat (rowsA30 t))).toRows.length) 8 then bif fits ((cell 1 (elem (cell 1 o_).toInt.toNat (rowsA30 t))).toRows.length + 1) 8 then bif within (cell 1 o_).toInt 10 then (k0 ((cellsA30 (putAt (rowsA30 t) (cell 1 o_).toInt.toNat 0 [D.int (IntKind.i64.wrap ((cell 0 (elem (cell 1 o_).toInt.toNat (rowsA30 t))).toInt + 1)), D.row ((cell 1 (elem (cell 1 o_).toInt.toNat (rowsA30 t))).toRows ++ [[D.int (cell 3 o_).toInt]]), D.bool true]))) 0) else none else none else none else bif !(cell 2 (elem (cell 1 o_).toInt.toNat (rowsA30 t))).toBool then (k0 t 9) else bif !decide (o_1 = IntKind.i64.wrap (ofN (cell 1 (elem (cell 1 o_).toInt.toNat (rowsA30 t))).toRows.length - 1)) then (k0 t 9) else bif within (cell 1 o_).toInt 10 then (k0 ((cellsA30 (putAt (rowsA30 t) (cell 1 o_).toInt.toNat 0 [D.int (cell 0 (elem (cell 1 o_).toInt.toNat (rowsA30 t))).toInt, D.row (cell 1 (elem (cell 1 o_).toInt.toNat (rowsA30 t))).toRows, D.bool false]))) 0) else none else none

noncomputable def F12 {R : Type} (fu : Nat) (t : List D) (o_ : List D) (k0 : (List D) → Int → Option R) : Option R := shut (@Fb12 R) fu t o_ k0
theorem F12_eq {R : Type} (fu : Nat) (t : List D) (o_ : List D) (k0 : (List D) → Int → Option R) : F12 fu t o_ k0 = Fb12 fu t o_ k0 := by unfold F12; rw [shut_eq]

noncomputable def pc12 (fu : Nat) : Nat → Option ToldP := fun p => match Nat.beq p 523610 with | true => some (ghP 0 [.live (bitsM 11 0x7dc), .gc, .fzC 0 1 ft0, .fzC 0 4 ft0, .fzC 0 7 ft0, .fzC 0 10 ft0, .fzC 0 13 ft0, .fzC 0 16 ft0, .fzC 0 19 ft0, .fzC 0 22 ft0, .fzC 0 25 ft0, .fzC 0 28 ft0, .fzC 1 4 ft0, .fzC 3 1 ft0, .gc] (pkP (bitsM 11 0x7dc) (t12_523610 fu fu))) | false => none
noncomputable def t12 (fu : Nat) : ToldF := fun _ args s K => match args, s with
  | [.agg (.int .i64 q :: .fz zq0 q1 false :: .bool q2 :: .int .i64 q3 :: .fz zq1 q4 false :: .bool q5 :: .int .i64 q6 :: .fz zq2 q7 false :: .bool q8 :: .int .i64 q9 :: .fz zq3 q10 false :: .bool q11 :: .int .i64 q12 :: .fz zq4 q13 false :: .bool q14 :: .int .i64 q15 :: .fz zq5 q16 false :: .bool q17 :: .int .i64 q18 :: .fz zq6 q19 false :: .bool q20 :: .int .i64 q21 :: .fz zq7 q22 false :: .bool q23 :: .int .i64 q24 :: .fz zq8 q25 false :: .bool q26 :: .int .i64 q27 :: .fz zq9 q28 false :: .bool q29 :: []), .agg [.int .i64 q30, .int .i64 q31, .int .i64 q32, .int .i64 q33, .fz zq10 q34 false]], [] => (match FT.sames zq0 ft0 with | true => (match FT.sames zq1 ft0 with | true => (match FT.sames zq2 ft0 with | true => (match FT.sames zq3 ft0 with | true => (match FT.sames zq4 ft0 with | true => (match FT.sames zq5 ft0 with | true => (match FT.sames zq6 ft0 with | true => (match FT.sames zq7 ft0 with | true => (match FT.sames zq8 ft0 with | true => (match FT.sames zq9 ft0 with | true => (match FT.sames zq10 ft0 with | true => F12 fu ((D.int q :: D.row q1 :: D.bool q2 :: D.int q3 :: D.row q4 :: D.bool q5 :: D.int q6 :: D.row q7 :: D.bool q8 :: D.int q9 :: D.row q10 :: D.bool q11 :: D.int q12 :: D.row q13 :: D.bool q14 :: D.int q15 :: D.row q16 :: D.bool q17 :: D.int q18 :: D.row q19 :: D.bool q20 :: D.int q21 :: D.row q22 :: D.bool q23 :: D.int q24 :: D.row q25 :: D.bool q26 :: D.int q27 :: D.row q28 :: D.bool q29 :: [])) [D.int q30, D.int q31, D.int q32, D.int q33, D.row q34] (fun o_ o_1 => K (.tuple [.agg (ofDs 0 ft3 o_), .int .i64 o_1]) []) | false => none) | false => none) | false => none) | false => none) | false => none) | false => none) | false => none) | false => none) | false => none) | false => none) | false => none)
  | _, _ => none

theorem e12 (R : Type) (K : UV → USt → Option R) (fu : Nat) (q : Int) (q1 : List (List D)) (q2 : Bool) (q3 : Int) (q4 : List (List D)) (q5 : Bool) (q6 : Int) (q7 : List (List D)) (q8 : Bool) (q9 : Int) (q10 : List (List D)) (q11 : Bool) (q12 : Int) (q13 : List (List D)) (q14 : Bool) (q15 : Int) (q16 : List (List D)) (q17 : Bool) (q18 : Int) (q19 : List (List D)) (q20 : Bool) (q21 : Int) (q22 : List (List D)) (q23 : Bool) (q24 : Int) (q25 : List (List D)) (q26 : Bool) (q27 : Int) (q28 : List (List D)) (q29 : Bool) (q30 : Int) (q31 : Int) (q32 : Int) (q33 : Int) (q34 : List (List D)) :
    F12 fu ((D.int q :: D.row q1 :: D.bool q2 :: D.int q3 :: D.row q4 :: D.bool q5 :: D.int q6 :: D.row q7 :: D.bool q8 :: D.int q9 :: D.row q10 :: D.bool q11 :: D.int q12 :: D.row q13 :: D.bool q14 :: D.int q15 :: D.row q16 :: D.bool q17 :: D.int q18 :: D.row q19 :: D.bool q20 :: D.int q21 :: D.row q22 :: D.bool q23 :: D.int q24 :: D.row q25 :: D.bool q26 :: D.int q27 :: D.row q28 :: D.bool q29 :: [])) [D.int q30, D.int q31, D.int q32, D.int q33, D.row q34] (fun o_ o_1 => K (.tuple [.agg (ofDs 0 ft3 o_), .int .i64 o_1]) []) = ufun Tryd.prog ⟨(tb29 fu), pc12 fu⟩ 300 12 [.agg (.int .i64 q :: .fz ft0 q1 false :: .bool q2 :: .int .i64 q3 :: .fz ft0 q4 false :: .bool q5 :: .int .i64 q6 :: .fz ft0 q7 false :: .bool q8 :: .int .i64 q9 :: .fz ft0 q10 false :: .bool q11 :: .int .i64 q12 :: .fz ft0 q13 false :: .bool q14 :: .int .i64 q15 :: .fz ft0 q16 false :: .bool q17 :: .int .i64 q18 :: .fz ft0 q19 false :: .bool q20 :: .int .i64 q21 :: .fz ft0 q22 false :: .bool q23 :: .int .i64 q24 :: .fz ft0 q25 false :: .bool q26 :: .int .i64 q27 :: .fz ft0 q28 false :: .bool q29 :: []), .agg [.int .i64 q30, .int .i64 q31, .int .i64 q32, .int .i64 q33, .fz ft0 q34 false]] [] (funK 0 [.fzP 0 [0, 1] ft0, .fzP 0 [0, 4] ft0, .fzP 0 [0, 7] ft0, .fzP 0 [0, 10] ft0, .fzP 0 [0, 13] ft0, .fzP 0 [0, 16] ft0, .fzP 0 [0, 19] ft0, .fzP 0 [0, 22] ft0, .fzP 0 [0, 25] ft0, .fzP 0 [0, 28] ft0, .gc] K) := (F12_eq fu _ _ _).trans (by kernel_rfl)

theorem s12 (fu : Nat) : Tells Tryd.prog 12 (t12 fu) := by
  refine ufun_sound (T := ⟨(tb29 fu), pc12 fu⟩) (m := 0) (gout := [.fzP 0 [0, 1] ft0, .fzP 0 [0, 4] ft0, .fzP 0 [0, 7] ft0, .fzP 0 [0, 10] ft0, .fzP 0 [0, 13] ft0, .fzP 0 [0, 16] ft0, .fzP 0 [0, 19] ft0, .fzP 0 [0, 22] ft0, .fzP 0 [0, 25] ft0, .fzP 0 [0, 28] ft0, .gc]) (k := 300) (tb29_sound fu) (fun fn body hf hb => ?_) (fun R args s K r h => ?_) (fun R args s K r h => ?_)
  · have hc : body = code12 := by
      have h1 : Tryd.prog.funcs[12]? = some Tryd.f12 := rfl
      rw [h1] at hf; cases hf
      have h2 : Tryd.f12.body = some code12 := rfl
      rw [h2] at hb; cases hb; rfl
    subst hc
    exact fun p told h b hb => by
      replace h : pc12 fu p = some told := h
      unfold pc12 at h
      split at h
      · rename_i hp
        cases h
        have := Nat.eq_of_beq_eq_true hp
        subst this
        rw [a12_523610] at hb
        cases hb
        exact ghP_sound (s12_523610 fu _)
      ·
        cases h

  · unfold t12 at h; split at h
    · rfl
    · cases h
  · unfold t12 at h; split at h
    case h_2 => cases h
    split at h
    case h_2 => cases h
    rename_i hq
    have hq := FT.sames_eq _ _ hq
    subst hq
    split at h
    case h_2 => cases h
    rename_i hq
    have hq := FT.sames_eq _ _ hq
    subst hq
    split at h
    case h_2 => cases h
    rename_i hq
    have hq := FT.sames_eq _ _ hq
    subst hq
    split at h
    case h_2 => cases h
    rename_i hq
    have hq := FT.sames_eq _ _ hq
    subst hq
    split at h
    case h_2 => cases h
    rename_i hq
    have hq := FT.sames_eq _ _ hq
    subst hq
    split at h
    case h_2 => cases h
    rename_i hq
    have hq := FT.sames_eq _ _ hq
    subst hq
    split at h
    case h_2 => cases h
    rename_i hq
    have hq := FT.sames_eq _ _ hq
    subst hq
    split at h
    case h_2 => cases h
    rename_i hq
    have hq := FT.sames_eq _ _ hq
    subst hq
    split at h
    case h_2 => cases h
    rename_i hq
    have hq := FT.sames_eq _ _ hq
    subst hq
    split at h
    case h_2 => cases h
    rename_i hq
    have hq := FT.sames_eq _ _ hq
    subst hq
    split at h
    case h_2 => cases h
    rename_i hq
    have hq := FT.sames_eq _ _ hq
    subst hq
    exact (e12 R K fu _ _ _ _ _ _ _ _ _ _ _ _ _ _ _ _ _ _ _ _ _ _ _ _ _ _ _ _ _ _ _ _ _ _ _).symm.trans h

noncomputable def tb12 (fu : Nat) : FuncId → Option (Bool × ToldF) := fun f => match Nat.beq f 12 with
  | true => some (false, ghG [.fzP 0 [1] ft0, .fzP 0 [4] ft0, .fzP 0 [7] ft0, .fzP 0 [10] ft0, .fzP 0 [13] ft0, .fzP 0 [16] ft0, .fzP 0 [19] ft0, .fzP 0 [22] ft0, .fzP 0 [25] ft0, .fzP 0 [28] ft0, .fzP 1 [4] ft0] (t12 fu))
  | false => (tb29 fu) f
theorem tb12_sound (fu : Nat) : SoundF' Tryd.prog (tb12 fu) := by
  intro f own told h
  unfold tb12 at h
  split at h
  · rename_i hb
    cases h
    have := Nat.eq_of_beq_eq_true hb
    subst this
    exact ghG_sound (s12 fu)
  · exact (tb29_sound fu) f own told h

end Go.Proofs.YtlakjegifgonbaaDoor.V

/- Printed by ugen: daisychain/daisychainlaw13.awake -/
namespace Go.Proofs.YtlakjegifgonbaaDoor.V
set_option maxRecDepth 100000
set_option maxHeartbeats 4000000


noncomputable def code10 : Code := match Tryd.f10.body with | some c => c | none => .skip

noncomputable def Fb10 {R : Type} (fu : Nat) (k0 : Option R) : Option R :=
  (k0)

noncomputable def F10 {R : Type} (fu : Nat) (k0 : Option R) : Option R := shut (@Fb10 R) fu k0
theorem F10_eq {R : Type} (fu : Nat) (k0 : Option R) : F10 fu k0 = Fb10 fu k0 := by unfold F10; rw [shut_eq]

noncomputable def pc10 (fu : Nat) : Nat → Option ToldP := fun _ => none
noncomputable def t10 (fu : Nat) : ToldF := fun _ args s K => match args, s with
  | [], [] => F10 fu  (K (.bool (true)) [])
  | _, _ => none

theorem e10 (R : Type) (K : UV → USt → Option R) (fu : Nat) :
    F10 fu  (K (.bool (true)) []) = ufun Tryd.prog ⟨(tb39 fu), pc10 fu⟩ 300 10 [] [] (funK 0 [.gc] K) := (F10_eq fu _).trans (by kernel_rfl)

theorem s10 (fu : Nat) : Tells Tryd.prog 10 (t10 fu) := by
  refine ufun_sound (T := ⟨(tb39 fu), pc10 fu⟩) (m := 0) (gout := [.gc]) (k := 300) (tb39_sound fu) (fun fn body hf hb => ?_) (fun R args s K r h => ?_) (fun R args s K r h => ?_)
  · have hc : body = code10 := by
      have h1 : Tryd.prog.funcs[10]? = some Tryd.f10 := rfl
      rw [h1] at hf; cases hf
      have h2 : Tryd.f10.body = some code10 := rfl
      rw [h2] at hb; cases hb; rfl
    subst hc
    exact SoundPc.none _ _ _
  · unfold t10 at h; split at h
    · rfl
    · cases h
  · unfold t10 at h; split at h
    case h_2 => cases h
    exact (e10 R K fu).symm.trans h

noncomputable def tb10 (fu : Nat) : FuncId → Option (Bool × ToldF) := fun f => match Nat.beq f 10 with
  | true => some (false, ghG [] (t10 fu))
  | false => (tb12 fu) f
theorem tb10_sound (fu : Nat) : SoundF' Tryd.prog (tb10 fu) := by
  intro f own told h
  unfold tb10 at h
  split at h
  · rename_i hb
    cases h
    have := Nat.eq_of_beq_eq_true hb
    subst this
    exact ghG_sound (s10 fu)
  · exact (tb12_sound fu) f own told h

end Go.Proofs.YtlakjegifgonbaaDoor.V

/- master: the words of a law's end. -/
namespace Go.Proofs.YtlakjegifgonbaaDoor.V
variable {R : Type}
theorem F10_ok (fu : Nat) (k : Option R) : F10 fu k = k := by rw [F10_eq, Fb10]
end Go.Proofs.YtlakjegifgonbaaDoor.V

/- What all joins use: a start that has the laid variables. -/
namespace Go.Proofs.YtlakjegifgonbaaDoor
open Go.ChangeShapes Go.WideShapes Go.ChangeAt Go.RowKit

theorem Tryd.own : ownKnob Tryd.prog.godebug = none := by kernel_rfl
theorem Tryd.laidOut : laidOutB Tryd.prog = true := by kernel_rfl

def cellsD : DataW Unit → Array Value
  | .agg l => (l.map fun x => match x with | .lit (.int k n) => Value.int k n | _ => .int .u8 0).toArray
  | _ => #[]
noncomputable def laidWorld (os : Os) : World :=
  let w0 := World.holding Tryd.prog os ⟨#[], #[], []⟩
  let put (h : Array Obj) (g : Nat) (cs : Array Value) : Array Obj := h.modify g fun
    | .cells _ t frozen => .cells cs t frozen
    | o => o
  { w0 with heap := put (put (put w0.heap 2 (cellsD Rows.laid_math_bits_deBruijn32tab)) 3 (cellsD Rows.laid_math_bits_deBruijn64tab)) 0 (cellsD Rows.laid_internal_strconv_uint64pow10) }
set_option maxRecDepth 100000 in
theorem laid_met (os : Os) (args : Array Value) : laidMetH Tryd.prog Rows.masterBesideRow.laid ((laidWorld os).forCall (fun _ _ => 0) ⟨#[], args, []⟩).memory :=
  (laidMet_of_run' 8 (by kernel_rfl) (by kernel_rfl) : laidMet Tryd.prog Rows.masterBesideRow.laid _)

end Go.Proofs.YtlakjegifgonbaaDoor

/- What all claims of this seat share. -/
namespace Go.Proofs.YtlakjegifgonbaaDoor.V
end Go.Proofs.YtlakjegifgonbaaDoor.V

