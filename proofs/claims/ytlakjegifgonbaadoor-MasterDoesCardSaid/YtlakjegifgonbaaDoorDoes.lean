/- WHAT IS PROVED: the call of MasterDoes answers true, and leaves its arguments as they were, at every input that the given row takes; the card ties the row's package variables to the program's text. No condition of its own. -/
import Derived.Test.YtlakjegifgonbaaDoorMid1
import Derived.Test.YtlakjegifgonbaaDoorRows
import Derived.Test.YtlakjegifgonbaaDoorChecked
import Derived.ProofKit
import Derived.Test.YtlakjegifgonbaaDoorTie
import Derived.Test.YtlakjegifgonbaaDoorCards
import Derived.SevenTiedAt
set_option linter.unusedVariables false
set_option linter.unusedSimpArgs false

/- Where V's law of function 3 stands, the given row stands. -/
namespace Go.Proofs.YtlakjegifgonbaaDoor
open Go.ChangeShapes Go.WideShapes Go.ChangeAt Go.RowKit

set_option maxRecDepth 100000 in
theorem does_lifted (law : V.Law Tryd.prog 3 Tryd.f3.params.toList) (os : Os) (started : os.Started) (H : Type) (enc : TypeId × Value → H) :
    ReturnsInHanded {} Tryd.checked os 3 .any (fun w args => (Rows.masterDoesSpec.pre enc Tryd.prog Tryd.f3 Rows.masterDoesRow.domain false w args ∧ laidMetH Tryd.prog Rows.masterDoesRow.laid w) ∧ sizedMet enc Tryd.prog Tryd.f3 (OpenSpec.ofChange Rows.masterDoesSpec) false w args) (Rows.masterDoesSpec.post enc Tryd.prog Tryd.f3 false true false false) := by
  refine V.lift_and (C := Tryd.checked) (X := fun w _ => laidMetH Tryd.prog Rows.masterDoesRow.laid w) enc Tryd.own started (by kernel_rfl) Tryd.func3
    (ChangeSpec.witness_at (enc := enc) (C := Tryd.checked) (X := fun w _ => laidMetH Tryd.prog Rows.masterDoesRow.laid w) false (laidWorld os) #[.slice none 0 0] 8 rfl (by kernel_rfl) (by kernel_rfl) (by kernel_rfl) (by kernel_rfl) (by kernel_rfl) (laid_met os _)) rfl (fun ds h => ?_) rfl (by kernel_rfl) Tryd.laidOut (by kernel_rfl) law
  have h : ds.length = 1 := h
  match ds, h with
  | [d1], _ => rfl

theorem does_join (law : V.Law Tryd.prog 3 Tryd.f3.params.toList) : Rows.MasterDoesSaid :=
  OpenClaim.holds_of_wide 3 Tryd.f3 rfl rfl rfl rfl rfl rfl rfl ⟨rfl, rfl, rfl, rfl, rfl⟩ rfl rfl rfl rfl rfl (by kernel_rfl) Tryd.func3 (by kernel_rfl)
    (of_decide_eq_true (by kernel_rfl)) (by unfold Func.isWrapper; first | (rw [if_pos (by decide +kernel)]; kernel_rfl) | (rw [if_neg (by decide +kernel)]; exact ⟨rfl, rfl⟩))
    (fun os started H enc _ => does_lifted law os started H enc)

end Go.Proofs.YtlakjegifgonbaaDoor

/- Printed by ugen: daisychain/daisychainlaw13.MasterBeside -/
namespace Go.Proofs.YtlakjegifgonbaaDoor.V
set_option maxRecDepth 100000
set_option maxHeartbeats 4000000


noncomputable def code8 : Code := match Tryd.f8.body with | some c => c | none => .skip
theorem a8_58 : codeAt code8 58 = some (.loop (loopBody (codeAt code8 58))) := by kernel_rfl
noncomputable def F8_58 {R : Type} (fu : Nat) (l : List (List D)) (x : List (List D)) (x1 : Int) : Nat → Int → (Option R) → (Option R) → Option R
  | 0, _, _, _ => none
  | n + 1, x2, k0, k1 => bif decide (x2 < x1) then bif within x2 x.length then bif decide ((cell 0 (elem x2.toNat x)).toInt < 0) then F10 fu ((k0)) else F21 fu l (cell 0 (elem x2.toNat x)).toInt fun o_0 => bif !decide (o_0 = x2) then F10 fu ((k0)) else (F8_58 fu l x x1 n (IntKind.i64.wrap (x2 + 1)) k0 k1) else none else (k1)

noncomputable def t8_58 (fu n : Nat) : ToldP := fun _ e s K => match e, s with
  | [.fz zq0 l false, .int .i64 node, .fz zq1 x false, .int .i64 x1, .int .i64 x2], [] => (match FT.sames zq0 ft0 with | true => (match FT.sames zq1 ft0 with | true => F8_58 fu l x x1 n x2 (K .ret (unpackM (bitsM 5 0x13) [.fz ft0 (l) false, .int .i64 (node), .bool (true)]) []) (K (.exit 0) (unpackM (bitsM 5 0x3) [.fz ft0 (l) false, .int .i64 (node)]) []) | false => none) | false => none)
  | _, _ => none

noncomputable def pc8_58 (fu : Nat) : Nat → Option ToldP := fun _ => none
theorem e8_58 (fu n : Nat) (R : Type) (K : VExit → UEnv → USt → Option R) (l : List (List D)) (node : Int) (x : List (List D)) (x1 : Int) (x2 : Int) :
    F8_58 fu l x x1 (n + 1) x2 (K .ret (unpackM (bitsM 5 0x13) [.fz ft0 (l) false, .int .i64 (node), .bool (true)]) []) (K (.exit 0) (unpackM (bitsM 5 0x3) [.fz ft0 (l) false, .int .i64 (node)]) []) = uexec Tryd.prog (tb10 fu) 300 (pc8_58 fu) 116 (loopBody (codeAt code8 58)) (unpackM (bitsM 18 0x38003) [.fz ft0 l false, .int .i64 node, .fz ft0 x false, .int .i64 x1, .int .i64 x2]) [] (loopK 0 [.live (bitsM 18 0x38003), .fzP 0 [] ft0, .fzP 15 [] ft0, .gc] [.live (bitsM 5 0x13), .gc] (pkP (bitsM 18 0x38003) (t8_58 fu n)) K) := by kernel_rfl

theorem p8_58 (fu : Nat) : SoundPc Tryd.prog 0 code8 (pc8_58 fu) := SoundPc.none _ _ _
theorem s8_58 (fu : Nat) : ∀ n, SoundP Tryd.prog 0 (.loop (loopBody (codeAt code8 58))) (pkP (bitsM 18 0x38003) (t8_58 fu n)) := by
  refine loopP_sound (gin := [.live (bitsM 18 0x38003), .fzP 0 [] ft0, .fzP 15 [] ft0, .gc]) (gout := [.live (bitsM 5 0x13), .gc]) (k := 300) (tb10_sound fu) (p8_58 fu) (by decide) a8_58 (fun R e s K => ?_) (fun n R e s K r h => ?_)
  · unfold t8_58; repeat' split
    all_goals rfl
  · unfold t8_58 at h; split at h
    case h_2 => cases h
    split at h
    case h_2 => cases h
    rename_i hq
    have hq := FT.sames_eq _ _ hq
    subst hq
    split at h
    case h_2 => cases h
    rename_i hq
    have hq := FT.sames_eq _ _ hq
    subst hq
    exact (e8_58 fu n R K _ _ _ _ _).symm.trans h


noncomputable def Fb8 {R : Type} (fu : Nat) (l : List (List D)) (node : Int) (k0 : Bool → Option R) : Option R :=
  bif decide (20 < ofN l.length) then F10 fu ((k0 true)) else F8_58 fu l l (ofN l.length) fu 0 ((k0 true)) (F21 fu l node fun o_0 => bif decide (0 ≤ o_0) then bif decide (IntKind.i64.wrap (o_0 + 1) < ofN l.length) then bif within (IntKind.i64.wrap (o_0 + 1)) l.length then bif decide (0 < o_0) then bif within (IntKind.i64.wrap (o_0 - 1)) l.length then F18 fu [D.int 0, D.row l, D.bool false] node fun o_1 => bif decide (o_1 = o_0) then F22 fu [D.int 0, D.row l, D.bool false] node fun o_2 => bif decide (o_2 = (cell 0 (elem (IntKind.i64.wrap (o_0 + 1)).toNat l)).toInt) then F23 fu [D.int 0, D.row l, D.bool false] node fun o_3 => bif decide (o_3 = (cell 0 (elem (IntKind.i64.wrap (o_0 - 1)).toNat l)).toInt) then F10 fu ((k0 true)) else (k0 false) else (k0 false) else (k0 false) else none else F18 fu [D.int 0, D.row l, D.bool false] node fun o_4 => bif decide (o_4 = o_0) then F22 fu [D.int 0, D.row l, D.bool false] node fun o_5 => bif decide (o_5 = (cell 0 (elem (IntKind.i64.wrap (o_0 + 1)).toNat l)).toInt) then F23 fu [D.int 0, D.row l, D.bool false] node fun o_6 => bif decide (o_6 = -1) then F10 fu ((k0 true)) else (k0 false) else (k0 false) else (k0 false) else none else bif decide (0 < o_0) then bif within (IntKind.i64.wrap (o_0 - 1)) l.length then F18 fu [D.int 0, D.row l, D.bool false] node fun o_7 => bif decide (o_7 = o_0) then F22 fu [D.int 0, D.row l, D.bool false] node fun o_8 => bif decide (o_8 = -1) then F23 fu [D.int 0, D.row l, D.bool false] node fun o_9 => bif decide (o_9 = (cell 0 (elem (IntKind.i64.wrap (o_0 - 1)).toNat l)).toInt) then F10 fu ((k0 true)) else (k0 false) else (k0 false) else (k0 false) else none else F18 fu [D.int 0, D.row l, D.bool false] node fun o_10 => bif decide (o_10 = o_0) then F22 fu [D.int 0, D.row l, D.bool false] node fun o_11 => bif decide (o_11 = -1) then F23 fu [D.int 0, D.row l, D.bool false] node fun o_12 => bif decide (o_12 = -1) then F10 fu ((k0 true)) else (k0 false) else (k0 false) else (k0 false) else bif decide (0 < o_0) then bif within (IntKind.i64.wrap (o_0 - 1)) l.length then F18 fu [D.int 0, D.row l, D.bool false] node fun o_13 => bif decide (o_13 = o_0) then F22 fu [D.int 0, D.row l, D.bool false] node fun o_14 => bif decide (o_14 = -1) then F23 fu [D.int 0, D.row l, D.bool false] node fun o_15 => bif decide (o_15 = (cell 0 (elem (IntKind.i64.wrap (o_0 - 1)).toNat l)).toInt) then F10 fu ((k0 true)) else (k0 false) else (k0 false) else (k0 false) else none else F18 fu [D.int 0, D.row l, D.bool false] node fun o_16 => bif decide (o_16 = o_0) then F22 fu [D.int 0, D.row l, D.bool false] node fun o_17 => bif decide (o_17 = -1) then F23 fu [D.int 0, D.row l, D.bool false] node fun o_18 => bif decide (o_18 = -1) then F10 fu ((k0 true)) else (k0 false) else (k0 false) else (k0 false))

noncomputable def F8 {R : Type} (fu : Nat) (l : List (List D)) (node : Int) (k0 : Bool → Option R) : Option R := shut (@Fb8 R) fu l node k0
theorem F8_eq {R : Type} (fu : Nat) (l : List (List D)) (node : Int) (k0 : Bool → Option R) : F8 fu l node k0 = Fb8 fu l node k0 := by unfold F8; rw [shut_eq]

noncomputable def pc8 (fu : Nat) : Nat → Option ToldP := fun p => match Nat.beq p 58 with | true => some (ghP 0 [.live (bitsM 18 0x38003), .fzP 0 [] ft0, .fzP 15 [] ft0, .gc] (pkP (bitsM 18 0x38003) (t8_58 fu fu))) | false => none
noncomputable def t8 (fu : Nat) : ToldF := fun _ args s K => match args, s with
  | [.fz zq0 l false, .int .i64 node], [] => (match FT.sames zq0 ft0 with | true => F8 fu l node (fun o_ => K (.bool o_) []) | false => none)
  | _, _ => none

theorem e8 (R : Type) (K : UV → USt → Option R) (fu : Nat) (l : List (List D)) (node : Int) :
    F8 fu l node (fun o_ => K (.bool o_) []) = ufun Tryd.prog ⟨(tb10 fu), pc8 fu⟩ 300 8 [.fz ft0 l false, .int .i64 node] [] (funK 0 [.gc] K) := (F8_eq fu _ _ _).trans (by kernel_rfl)

theorem s8 (fu : Nat) : Tells Tryd.prog 8 (t8 fu) := by
  refine ufun_sound (T := ⟨(tb10 fu), pc8 fu⟩) (m := 0) (gout := [.gc]) (k := 300) (tb10_sound fu) (fun fn body hf hb => ?_) (fun R args s K r h => ?_) (fun R args s K r h => ?_)
  · have hc : body = code8 := by
      have h1 : Tryd.prog.funcs[8]? = some Tryd.f8 := rfl
      rw [h1] at hf; cases hf
      have h2 : Tryd.f8.body = some code8 := rfl
      rw [h2] at hb; cases hb; rfl
    subst hc
    exact fun p told h b hb => by
      replace h : pc8 fu p = some told := h
      unfold pc8 at h
      split at h
      · rename_i hp
        cases h
        have := Nat.eq_of_beq_eq_true hp
        subst this
        rw [a8_58] at hb
        cases hb
        exact ghP_sound (s8_58 fu _)
      ·
        cases h

  · unfold t8 at h; split at h
    · rfl
    · cases h
  · unfold t8 at h; split at h
    case h_2 => cases h
    split at h
    case h_2 => cases h
    rename_i hq
    have hq := FT.sames_eq _ _ hq
    subst hq
    exact (e8 R K fu _ _).symm.trans h

noncomputable def tb8 (fu : Nat) : FuncId → Option (Bool × ToldF) := fun f => match Nat.beq f 8 with
  | true => some (false, ghG [.fzP 0 [] ft0] (t8 fu))
  | false => (tb10 fu) f
theorem tb8_sound (fu : Nat) : SoundF' Tryd.prog (tb8 fu) := by
  intro f own told h
  unfold tb8 at h
  split at h
  · rename_i hb
    cases h
    have := Nat.eq_of_beq_eq_true hb
    subst this
    exact ghG_sound (s8 fu)
  · exact (tb10_sound fu) f own told h

end Go.Proofs.YtlakjegifgonbaaDoor.V

/- Printed by ugen: daisychain/daisychainlaw13.MasterFull -/
namespace Go.Proofs.YtlakjegifgonbaaDoor.V
set_option maxRecDepth 100000
set_option maxHeartbeats 4000000


noncomputable def code7 : Code := match Tryd.f7.body with | some c => c | none => .skip

noncomputable def Fb7 {R : Type} (fu : Nat) (first : Int) (next : Int) (full : Bool) (k0 : Bool → Option R) : Option R :=
  F11 fu (bif decide (first < 0) then F10 fu ((k0 true)) else bif decide (99 < first) then F10 fu ((k0 true)) else bif decide (next < 0) then F10 fu ((k0 true)) else bif decide (99 < next) then F10 fu ((k0 true)) else bif decide (first = next) then F10 fu ((k0 true)) else F14 fu [D.int 0, D.int 0, D.int 0, D.int 0, D.row [[D.int first]]] [] fun o_0 o_1 => F14 fu [D.int 2, D.int 0, D.int 1, D.int next, D.row []] o_1 fun o_2 o_3 => bif full then F14 fu [D.int 3, D.int 0, D.int 2, D.int next, D.row []] o_3 fun o_4 o_5 => bif !decide (o_4 = 0) then (k0 false) else F14 fu [D.int 1, D.int 0, D.int 2, D.int first, D.row []] o_5 fun o_6 o_7 => F16 fu 0 o_7 fun o_8 o_9 => bif full then bif decide (o_0 = 0) then bif decide (o_2 = 0) then bif decide (o_6 = 0) then bif decide ((cell 0 o_8).toInt = 3) then bif decide (ofN (cell 1 o_8).toRows.length = 1) then bif within 0 (cell 1 o_8).toRows.length then bif decide ((cell 0 (elem 0 (cell 1 o_8).toRows)).toInt = next) then bif !(cell 2 o_8).toBool then F10 fu ((k0 true)) else (k0 false) else (k0 false) else none else (k0 false) else (k0 false) else (k0 false) else (k0 false) else (k0 false) else bif decide (o_0 = 0) then bif decide (o_2 = 0) then bif decide (o_6 = 9) then bif decide ((cell 0 o_8).toInt = 2) then bif (cell 2 o_8).toBool then F10 fu ((k0 true)) else (k0 false) else (k0 false) else (k0 false) else (k0 false) else (k0 false) else F14 fu [D.int 1, D.int 0, D.int 2, D.int first, D.row []] o_3 fun o_10 o_11 => F16 fu 0 o_11 fun o_12 o_13 => bif full then bif decide (o_0 = 0) then bif decide (o_2 = 0) then bif decide (o_10 = 0) then bif decide ((cell 0 o_12).toInt = 3) then bif decide (ofN (cell 1 o_12).toRows.length = 1) then bif within 0 (cell 1 o_12).toRows.length then bif decide ((cell 0 (elem 0 (cell 1 o_12).toRows)).toInt = next) then bif !(cell 2 o_12).toBool then F10 fu ((k0 true)) else (k0 false) else (k0 false) else none else (k0 false) else (k0 false) else (k0 false) else (k0 false) else (k0 false) else bif decide (o_0 = 0) then bif decide (o_2 = 0) then bif decide (o_10 = 9) then bif decide ((cell 0 o_12).toInt = 2) then bif (cell 2 o_12).toBool then F10 fu ((k0 true)) else (k0 false) else (k0 false) else (k0 false) else (k0 false) else (k0 false))

noncomputable def F7 {R : Type} (fu : Nat) (first : Int) (next : Int) (full : Bool) (k0 : Bool → Option R) : Option R := shut (@Fb7 R) fu first next full k0
theorem F7_eq {R : Type} (fu : Nat) (first : Int) (next : Int) (full : Bool) (k0 : Bool → Option R) : F7 fu first next full k0 = Fb7 fu first next full k0 := by unfold F7; rw [shut_eq]

noncomputable def pc7 (fu : Nat) : Nat → Option ToldP := fun _ => none
noncomputable def t7 (fu : Nat) : ToldF := fun _ args s K => match args, s with
  | [.int .i64 first, .int .i64 next, .bool full], [] => F7 fu first next full (fun o_ => K (.bool o_) [])
  | _, _ => none

theorem e7 (R : Type) (K : UV → USt → Option R) (fu : Nat) (first : Int) (next : Int) (full : Bool) :
    F7 fu first next full (fun o_ => K (.bool o_) []) = ufun Tryd.prog ⟨(tb8 fu), pc7 fu⟩ 300 7 [.int .i64 first, .int .i64 next, .bool full] [] (funK 0 [.gc] K) := (F7_eq fu _ _ _ _).trans (by kernel_rfl)

theorem s7 (fu : Nat) : Tells Tryd.prog 7 (t7 fu) := by
  refine ufun_sound (T := ⟨(tb8 fu), pc7 fu⟩) (m := 0) (gout := [.gc]) (k := 300) (tb8_sound fu) (fun fn body hf hb => ?_) (fun R args s K r h => ?_) (fun R args s K r h => ?_)
  · have hc : body = code7 := by
      have h1 : Tryd.prog.funcs[7]? = some Tryd.f7 := rfl
      rw [h1] at hf; cases hf
      have h2 : Tryd.f7.body = some code7 := rfl
      rw [h2] at hb; cases hb; rfl
    subst hc
    exact SoundPc.none _ _ _
  · unfold t7 at h; split at h
    · rfl
    · cases h
  · unfold t7 at h; split at h
    case h_2 => cases h
    exact (e7 R K fu _ _ _).symm.trans h

noncomputable def tb7 (fu : Nat) : FuncId → Option (Bool × ToldF) := fun f => match Nat.beq f 7 with
  | true => some (false, ghG [] (t7 fu))
  | false => (tb8 fu) f
theorem tb7_sound (fu : Nat) : SoundF' Tryd.prog (tb7 fu) := by
  intro f own told h
  unfold tb7 at h
  split at h
  · rename_i hb
    cases h
    have := Nat.eq_of_beq_eq_true hb
    subst this
    exact ghG_sound (s7 fu)
  · exact (tb8_sound fu) f own told h

end Go.Proofs.YtlakjegifgonbaaDoor.V

/- Printed by ugen: daisychain/daisychainlaw13.MasterOrders -/
namespace Go.Proofs.YtlakjegifgonbaaDoor.V
set_option maxRecDepth 100000
set_option maxHeartbeats 4000000


noncomputable def code5 : Code := match Tryd.f5.body with | some c => c | none => .skip
theorem a5_250 : codeAt code5 250 = some (.loop (loopBody (codeAt code5 250))) := by kernel_rfl
noncomputable def F5_250 {R : Type} (fu : Nat) (x : List (List D)) (x1 : Int) : Nat → Int → (List (D × List D)) → ((List (D × List D)) → Option R) → Option R
  | 0, _, _, _ => none
  | n + 1, x2, y, k0 => bif decide (x2 < x1) then bif within x2 x.length then F14 fu [D.int (cell 0 (elem x2.toNat x)).toInt, D.int (cell 1 (elem x2.toNat x)).toInt, D.int (cell 2 (elem x2.toNat x)).toInt, D.int (cell 3 (elem x2.toNat x)).toInt, D.row (cell 4 (elem x2.toNat x)).toRows] y fun o_0 o_1 => (F5_250 fu x x1 n (IntKind.i64.wrap (x2 + 1)) o_1 k0) else none else (k0 y)

noncomputable def t5_250 (fu n : Nat) : ToldP := fun _ e s K => match e, s with
  | [.ptr 0 0, .ptr 1 0, .fz zq0 x false, .int .i64 x1, .int .i64 x2], [.obj [.int .i64 ob, .int .i64 ob1, .int .i64 ob2, .int .i64 ob3, .fz zq1 ob4 false], .obj [.map 2], .map (.int .i64) true zq2 y] => (match FT.sames zq0 ft1 with | true => (match FT.sames zq1 ft0 with | true => (match FT.sames zq2 ft2 with | true => F5_250 fu x x1 n x2 y (fun o_ => K (.exit 0) (unpackM (bitsM 6 0x28) [.ptr 0 0, .ptr 1 0]) [.obj [.int .i64 (ob), .int .i64 (ob1), .int .i64 (ob2), .int .i64 (ob3), .fz ft0 (ob4) false], .obj [.map 2], .map (.int .i64) true ft2 o_]) | false => none) | false => none) | false => none)
  | _, _ => none

noncomputable def pc5_250 (fu : Nat) : Nat → Option ToldP := fun _ => none
theorem e5_250 (fu n : Nat) (R : Type) (K : VExit → UEnv → USt → Option R) (x : List (List D)) (x1 : Int) (x2 : Int) (ob : Int) (ob1 : Int) (ob2 : Int) (ob3 : Int) (ob4 : List (List D)) (y : List (D × List D)) :
    F5_250 fu x x1 (n + 1) x2 y (fun o_ => K (.exit 0) (unpackM (bitsM 6 0x28) [.ptr 0 0, .ptr 1 0]) [.obj [.int .i64 (ob), .int .i64 (ob1), .int .i64 (ob2), .int .i64 (ob3), .fz ft0 (ob4) false], .obj [.map 2], .map (.int .i64) true ft2 o_]) = uexec Tryd.prog (tb7 fu) 300 (pc5_250 fu) 500 (loopBody (codeAt code5 250)) (unpackM (bitsM 28 0xe000028) [.ptr 0 0, .ptr 1 0, .fz ft1 x false, .int .i64 x1, .int .i64 x2]) [.obj [.int .i64 ob, .int .i64 ob1, .int .i64 ob2, .int .i64 ob3, .fz ft0 ob4 false], .obj [.map 2], .map (.int .i64) true ft2 y] (loopK 0 [.live (bitsM 28 0xe000028), .fzP 25 [] ft1, .gc, .fzC 0 4 ft0, .gc] [.live (bitsM 6 0x38), .gc] (pkP (bitsM 28 0xe000028) (t5_250 fu n)) K) := by kernel_rfl

theorem p5_250 (fu : Nat) : SoundPc Tryd.prog 0 code5 (pc5_250 fu) := SoundPc.none _ _ _
theorem s5_250 (fu : Nat) : ∀ n, SoundP Tryd.prog 0 (.loop (loopBody (codeAt code5 250))) (pkP (bitsM 28 0xe000028) (t5_250 fu n)) := by
  refine loopP_sound (gin := [.live (bitsM 28 0xe000028), .fzP 25 [] ft1, .gc, .fzC 0 4 ft0, .gc]) (gout := [.live (bitsM 6 0x38), .gc]) (k := 300) (tb7_sound fu) (p5_250 fu) (by decide) a5_250 (fun R e s K => ?_) (fun n R e s K r h => ?_)
  · unfold t5_250; repeat' split
    all_goals rfl
  · unfold t5_250 at h; split at h
    case h_2 => cases h
    split at h
    case h_2 => cases h
    rename_i hq
    have hq := FT.sames_eq _ _ hq
    subst hq
    split at h
    case h_2 => cases h
    rename_i hq
    have hq := FT.sames_eq _ _ hq
    subst hq
    split at h
    case h_2 => cases h
    rename_i hq
    have hq := FT.sames_eq _ _ hq
    subst hq
    exact (e5_250 fu n R K _ _ _ _ _ _ _ _ _).symm.trans h


noncomputable def Fb5 {R : Type} (fu : Nat) (l : List (List D)) (o_ : List D) (k0 : Bool → Option R) : Option R :=
  F9 fu l fun o_0 => bif !o_0 then F10 fu ((k0 true)) else F9 fu [[D.int (cell 0 o_).toInt, D.int (cell 1 o_).toInt, D.int (cell 2 o_).toInt, D.int (cell 3 o_).toInt, D.row (cell 4 o_).toRows]] fun o_1 => bif !o_1 then F10 fu ((k0 true)) else F11 fu (F5_250 fu l (ofN l.length) fu 0 [] fun o_2 => F16 fu (cell 1 o_).toInt o_2 fun o_3 o_4 => bif textOK o_2 then F14 fu [D.int (cell 0 o_).toInt, D.int (cell 1 o_).toInt, D.int (cell 2 o_).toInt, D.int (cell 3 o_).toInt, D.row (cell 4 o_).toRows] o_2 fun o_5 o_6 => bif !decide (o_5 = 0) then bif textOK o_6 then bif !strEq (textD o_6) (textD o_2) then (k0 false) else bif decide (1 ≤ (cell 0 o_).toInt) then bif decide ((cell 0 o_).toInt ≤ 3) then bif o_4 then bif !decide ((cell 0 o_3).toInt = (cell 2 o_).toInt) then bif !decide (o_5 = 11) then (k0 false) else F10 fu ((k0 true)) else F10 fu ((k0 true)) else F10 fu ((k0 true)) else F10 fu ((k0 true)) else F10 fu ((k0 true)) else none else bif decide (1 ≤ (cell 0 o_).toInt) then bif decide ((cell 0 o_).toInt ≤ 3) then bif o_4 then bif !decide ((cell 0 o_3).toInt = (cell 2 o_).toInt) then bif !decide (o_5 = 11) then (k0 false) else F10 fu ((k0 true)) else F10 fu ((k0 true)) else F10 fu ((k0 true)) else F10 fu ((k0 true)) else F10 fu ((k0 true)) else none)

noncomputable def F5 {R : Type} (fu : Nat) (l : List (List D)) (o_ : List D) (k0 : Bool → Option R) : Option R := shut (@Fb5 R) fu l o_ k0
theorem F5_eq {R : Type} (fu : Nat) (l : List (List D)) (o_ : List D) (k0 : Bool → Option R) : F5 fu l o_ k0 = Fb5 fu l o_ k0 := by unfold F5; rw [shut_eq]

noncomputable def pc5 (fu : Nat) : Nat → Option ToldP := fun p => match Nat.beq p 250 with | true => some (ghP 0 [.live (bitsM 28 0xe000028), .fzP 25 [] ft1, .gc, .fzC 0 4 ft0, .gc] (pkP (bitsM 28 0xe000028) (t5_250 fu fu))) | false => none
noncomputable def t5 (fu : Nat) : ToldF := fun _ args s K => match args, s with
  | [.fz zq0 l false, .agg [.int .i64 q, .int .i64 q1, .int .i64 q2, .int .i64 q3, .fz zq1 q4 false]], [] => (match FT.sames zq0 ft1 with | true => (match FT.sames zq1 ft0 with | true => F5 fu l [D.int q, D.int q1, D.int q2, D.int q3, D.row q4] (fun o_ => K (.bool o_) []) | false => none) | false => none)
  | _, _ => none

theorem e5 (R : Type) (K : UV → USt → Option R) (fu : Nat) (l : List (List D)) (q : Int) (q1 : Int) (q2 : Int) (q3 : Int) (q4 : List (List D)) :
    F5 fu l [D.int q, D.int q1, D.int q2, D.int q3, D.row q4] (fun o_ => K (.bool o_) []) = ufun Tryd.prog ⟨(tb7 fu), pc5 fu⟩ 300 5 [.fz ft1 l false, .agg [.int .i64 q, .int .i64 q1, .int .i64 q2, .int .i64 q3, .fz ft0 q4 false]] [] (funK 0 [.gc] K) := (F5_eq fu _ _ _).trans (by kernel_rfl)

theorem s5 (fu : Nat) : Tells Tryd.prog 5 (t5 fu) := by
  refine ufun_sound (T := ⟨(tb7 fu), pc5 fu⟩) (m := 0) (gout := [.gc]) (k := 300) (tb7_sound fu) (fun fn body hf hb => ?_) (fun R args s K r h => ?_) (fun R args s K r h => ?_)
  · have hc : body = code5 := by
      have h1 : Tryd.prog.funcs[5]? = some Tryd.f5 := rfl
      rw [h1] at hf; cases hf
      have h2 : Tryd.f5.body = some code5 := rfl
      rw [h2] at hb; cases hb; rfl
    subst hc
    exact fun p told h b hb => by
      replace h : pc5 fu p = some told := h
      unfold pc5 at h
      split at h
      · rename_i hp
        cases h
        have := Nat.eq_of_beq_eq_true hp
        subst this
        rw [a5_250] at hb
        cases hb
        exact ghP_sound (s5_250 fu _)
      ·
        cases h

  · unfold t5 at h; split at h
    · rfl
    · cases h
  · unfold t5 at h; split at h
    case h_2 => cases h
    split at h
    case h_2 => cases h
    rename_i hq
    have hq := FT.sames_eq _ _ hq
    subst hq
    split at h
    case h_2 => cases h
    rename_i hq
    have hq := FT.sames_eq _ _ hq
    subst hq
    exact (e5 R K fu _ _ _ _ _ _).symm.trans h

noncomputable def tb5 (fu : Nat) : FuncId → Option (Bool × ToldF) := fun f => match Nat.beq f 5 with
  | true => some (false, ghG [.fzP 0 [] ft1, .fzP 1 [4] ft0] (t5 fu))
  | false => (tb7 fu) f
theorem tb5_sound (fu : Nat) : SoundF' Tryd.prog (tb5 fu) := by
  intro f own told h
  unfold tb5 at h
  split at h
  · rename_i hb
    cases h
    have := Nat.eq_of_beq_eq_true hb
    subst this
    exact ghG_sound (s5 fu)
  · exact (tb7_sound fu) f own told h

end Go.Proofs.YtlakjegifgonbaaDoor.V

/- Printed by ugen: daisychain/daisychainlaw13.Stands -/
namespace Go.Proofs.YtlakjegifgonbaaDoor.V
set_option maxRecDepth 100000
set_option maxHeartbeats 4000000


noncomputable def code15 : Code := match Tryd.f15.body with | some c => c | none => .skip
theorem a15_58 : codeAt code15 58 = some (.loop (loopBody (codeAt code15 58))) := by kernel_rfl
noncomputable def F15_58 {R : Type} (fu : Nat) (x : Int) (x1 : List (List D)) (x2 : Bool) (x3 : Int) (x4 : List (List D)) (x5 : Bool) (x6 : Int) (x7 : List (List D)) (x8 : Bool) (x9 : Int) (x10 : List (List D)) (x11 : Bool) (x12 : Int) (x13 : List (List D)) (x14 : Bool) (x15 : Int) (x16 : List (List D)) (x17 : Bool) (x18 : Int) (x19 : List (List D)) (x20 : Bool) (x21 : Int) (x22 : List (List D)) (x23 : Bool) (x24 : Int) (x25 : List (List D)) (x26 : Bool) (x27 : Int) (x28 : List (List D)) (x29 : Bool) (y : List (D × List D)) : Nat → Int → Int → (Int → Option R) → (Int → Option R) → Option R
  | 0, _, _, _, _ => none
  | n + 1, n_, x30, k0, k1 => bif decide (x30 < 10) then bif within x30 10 then F16 fu x30 y fun o_0 o_1 => bif !o_1 == decide (0 < (cell 0 (elem x30.toNat [[D.int x, D.row x1, D.bool x2], [D.int x3, D.row x4, D.bool x5], [D.int x6, D.row x7, D.bool x8], [D.int x9, D.row x10, D.bool x11], [D.int x12, D.row x13, D.bool x14], [D.int x15, D.row x16, D.bool x17], [D.int x18, D.row x19, D.bool x20], [D.int x21, D.row x22, D.bool x23], [D.int x24, D.row x25, D.bool x26], [D.int x27, D.row x28, D.bool x29]])).toInt) then (k0 n_) else F17 fu [D.int (cell 0 o_0).toInt, D.row (cell 1 o_0).toRows, D.bool (cell 2 o_0).toBool] [D.int (cell 0 (elem x30.toNat [[D.int x, D.row x1, D.bool x2], [D.int x3, D.row x4, D.bool x5], [D.int x6, D.row x7, D.bool x8], [D.int x9, D.row x10, D.bool x11], [D.int x12, D.row x13, D.bool x14], [D.int x15, D.row x16, D.bool x17], [D.int x18, D.row x19, D.bool x20], [D.int x21, D.row x22, D.bool x23], [D.int x24, D.row x25, D.bool x26], [D.int x27, D.row x28, D.bool x29]])).toInt, D.row (cell 1 (elem x30.toNat [[D.int x, D.row x1, D.bool x2], [D.int x3, D.row x4, D.bool x5], [D.int x6, D.row x7, D.bool x8], [D.int x9, D.row x10, D.bool x11], [D.int x12, D.row x13, D.bool x14], [D.int x15, D.row x16, D.bool x17], [D.int x18, D.row x19, D.bool x20], [D.int x21, D.row x22, D.bool x23], [D.int x24, D.row x25, D.bool x26], [D.int x27, D.row x28, D.bool x29]])).toRows, D.bool (cell 2 (elem x30.toNat [[D.int x, D.row x1, D.bool x2], [D.int x3, D.row x4, D.bool x5], [D.int x6, D.row x7, D.bool x8], [D.int x9, D.row x10, D.bool x11], [D.int x12, D.row x13, D.bool x14], [D.int x15, D.row x16, D.bool x17], [D.int x18, D.row x19, D.bool x20], [D.int x21, D.row x22, D.bool x23], [D.int x24, D.row x25, D.bool x26], [D.int x27, D.row x28, D.bool x29]])).toBool] fun o_2 => bif !o_2 then (k0 n_) else bif o_1 then (F15_58 fu x x1 x2 x3 x4 x5 x6 x7 x8 x9 x10 x11 x12 x13 x14 x15 x16 x17 x18 x19 x20 x21 x22 x23 x24 x25 x26 x27 x28 x29 y n (IntKind.i64.wrap (n_ + 1)) (IntKind.i64.wrap (x30 + 1)) k0 k1) else (F15_58 fu x x1 x2 x3 x4 x5 x6 x7 x8 x9 x10 x11 x12 x13 x14 x15 x16 x17 x18 x19 x20 x21 x22 x23 x24 x25 x26 x27 x28 x29 y n n_ (IntKind.i64.wrap (x30 + 1)) k0 k1) else none else (k1 n_)

noncomputable def t15_58 (fu n : Nat) : ToldP := fun _ e s K => match e, s with
  | [.ptr 0 0, .ptr 2 0, .int .i64 n_, .agg (.int .i64 x :: .fz zq0 x1 false :: .bool x2 :: .int .i64 x3 :: .fz zq1 x4 false :: .bool x5 :: .int .i64 x6 :: .fz zq2 x7 false :: .bool x8 :: .int .i64 x9 :: .fz zq3 x10 false :: .bool x11 :: .int .i64 x12 :: .fz zq4 x13 false :: .bool x14 :: .int .i64 x15 :: .fz zq5 x16 false :: .bool x17 :: .int .i64 x18 :: .fz zq6 x19 false :: .bool x20 :: .int .i64 x21 :: .fz zq7 x22 false :: .bool x23 :: .int .i64 x24 :: .fz zq8 x25 false :: .bool x26 :: .int .i64 x27 :: .fz zq9 x28 false :: .bool x29 :: []), .int .i64 x30], [.obj [.map 1], .map (.int .i64) true zq10 y, .obj (.int .i64 r :: .fz zq11 r1 false :: .bool r2 :: .int .i64 r3 :: .fz zq12 r4 false :: .bool r5 :: .int .i64 r6 :: .fz zq13 r7 false :: .bool r8 :: .int .i64 r9 :: .fz zq14 r10 false :: .bool r11 :: .int .i64 r12 :: .fz zq15 r13 false :: .bool r14 :: .int .i64 r15 :: .fz zq16 r16 false :: .bool r17 :: .int .i64 r18 :: .fz zq17 r19 false :: .bool r20 :: .int .i64 r21 :: .fz zq18 r22 false :: .bool r23 :: .int .i64 r24 :: .fz zq19 r25 false :: .bool r26 :: .int .i64 r27 :: .fz zq20 r28 false :: .bool r29 :: [])] => (match FT.sames zq0 ft0 with | true => (match FT.sames zq1 ft0 with | true => (match FT.sames zq2 ft0 with | true => (match FT.sames zq3 ft0 with | true => (match FT.sames zq4 ft0 with | true => (match FT.sames zq5 ft0 with | true => (match FT.sames zq6 ft0 with | true => (match FT.sames zq7 ft0 with | true => (match FT.sames zq8 ft0 with | true => (match FT.sames zq9 ft0 with | true => (match FT.sames zq10 ft2 with | true => (match FT.sames zq11 ft0 with | true => (match FT.sames zq12 ft0 with | true => (match FT.sames zq13 ft0 with | true => (match FT.sames zq14 ft0 with | true => (match FT.sames zq15 ft0 with | true => (match FT.sames zq16 ft0 with | true => (match FT.sames zq17 ft0 with | true => (match FT.sames zq18 ft0 with | true => (match FT.sames zq19 ft0 with | true => (match FT.sames zq20 ft0 with | true => F15_58 fu x x1 x2 x3 x4 x5 x6 x7 x8 x9 x10 x11 x12 x13 x14 x15 x16 x17 x18 x19 x20 x21 x22 x23 x24 x25 x26 x27 x28 x29 y n n_ x30 (fun o_ => K .ret (unpackM (bitsM 6 0x39) [.ptr 0 0, .ptr 2 0, .bool (false), .int .i64 o_]) [.obj [.map 1], .map (.int .i64) true ft2 (y), .obj (.int .i64 (r) :: .fz ft0 (r1) false :: .bool (r2) :: .int .i64 (r3) :: .fz ft0 (r4) false :: .bool (r5) :: .int .i64 (r6) :: .fz ft0 (r7) false :: .bool (r8) :: .int .i64 (r9) :: .fz ft0 (r10) false :: .bool (r11) :: .int .i64 (r12) :: .fz ft0 (r13) false :: .bool (r14) :: .int .i64 (r15) :: .fz ft0 (r16) false :: .bool (r17) :: .int .i64 (r18) :: .fz ft0 (r19) false :: .bool (r20) :: .int .i64 (r21) :: .fz ft0 (r22) false :: .bool (r23) :: .int .i64 (r24) :: .fz ft0 (r25) false :: .bool (r26) :: .int .i64 (r27) :: .fz ft0 (r28) false :: .bool (r29) :: [])]) (fun o_ => K (.exit 0) (unpackM (bitsM 6 0x29) [.ptr 0 0, .ptr 2 0, .int .i64 o_]) [.obj [.map 1], .map (.int .i64) true ft2 (y), .obj (.int .i64 (r) :: .fz ft0 (r1) false :: .bool (r2) :: .int .i64 (r3) :: .fz ft0 (r4) false :: .bool (r5) :: .int .i64 (r6) :: .fz ft0 (r7) false :: .bool (r8) :: .int .i64 (r9) :: .fz ft0 (r10) false :: .bool (r11) :: .int .i64 (r12) :: .fz ft0 (r13) false :: .bool (r14) :: .int .i64 (r15) :: .fz ft0 (r16) false :: .bool (r17) :: .int .i64 (r18) :: .fz ft0 (r19) false :: .bool (r20) :: .int .i64 (r21) :: .fz ft0 (r22) false :: .bool (r23) :: .int .i64 (r24) :: .fz ft0 (r25) false :: .bool (r26) :: .int .i64 (r27) :: .fz ft0 (r28) false :: .bool (r29) :: [])]) | false => none) | false => none) | false => none) | false => none) | false => none) | false => none) | false => none) | false => none) | false => none) | false => none) | false => none) | false => none) | false => none) | false => none) | false => none) | false => none) | false => none) | false => none) | false => none) | false => none) | false => none)
  | _, _ => none

noncomputable def pc15_58 (fu : Nat) : Nat → Option ToldP := fun _ => none
theorem e15_58 (fu n : Nat) (R : Type) (K : VExit → UEnv → USt → Option R) (n_ : Int) (x : Int) (x1 : List (List D)) (x2 : Bool) (x3 : Int) (x4 : List (List D)) (x5 : Bool) (x6 : Int) (x7 : List (List D)) (x8 : Bool) (x9 : Int) (x10 : List (List D)) (x11 : Bool) (x12 : Int) (x13 : List (List D)) (x14 : Bool) (x15 : Int) (x16 : List (List D)) (x17 : Bool) (x18 : Int) (x19 : List (List D)) (x20 : Bool) (x21 : Int) (x22 : List (List D)) (x23 : Bool) (x24 : Int) (x25 : List (List D)) (x26 : Bool) (x27 : Int) (x28 : List (List D)) (x29 : Bool) (x30 : Int) (y : List (D × List D)) (r : Int) (r1 : List (List D)) (r2 : Bool) (r3 : Int) (r4 : List (List D)) (r5 : Bool) (r6 : Int) (r7 : List (List D)) (r8 : Bool) (r9 : Int) (r10 : List (List D)) (r11 : Bool) (r12 : Int) (r13 : List (List D)) (r14 : Bool) (r15 : Int) (r16 : List (List D)) (r17 : Bool) (r18 : Int) (r19 : List (List D)) (r20 : Bool) (r21 : Int) (r22 : List (List D)) (r23 : Bool) (r24 : Int) (r25 : List (List D)) (r26 : Bool) (r27 : Int) (r28 : List (List D)) (r29 : Bool) :
    F15_58 fu x x1 x2 x3 x4 x5 x6 x7 x8 x9 x10 x11 x12 x13 x14 x15 x16 x17 x18 x19 x20 x21 x22 x23 x24 x25 x26 x27 x28 x29 y (n + 1) n_ x30 (fun o_ => K .ret (unpackM (bitsM 6 0x39) [.ptr 0 0, .ptr 2 0, .bool (false), .int .i64 o_]) [.obj [.map 1], .map (.int .i64) true ft2 (y), .obj (.int .i64 (r) :: .fz ft0 (r1) false :: .bool (r2) :: .int .i64 (r3) :: .fz ft0 (r4) false :: .bool (r5) :: .int .i64 (r6) :: .fz ft0 (r7) false :: .bool (r8) :: .int .i64 (r9) :: .fz ft0 (r10) false :: .bool (r11) :: .int .i64 (r12) :: .fz ft0 (r13) false :: .bool (r14) :: .int .i64 (r15) :: .fz ft0 (r16) false :: .bool (r17) :: .int .i64 (r18) :: .fz ft0 (r19) false :: .bool (r20) :: .int .i64 (r21) :: .fz ft0 (r22) false :: .bool (r23) :: .int .i64 (r24) :: .fz ft0 (r25) false :: .bool (r26) :: .int .i64 (r27) :: .fz ft0 (r28) false :: .bool (r29) :: [])]) (fun o_ => K (.exit 0) (unpackM (bitsM 6 0x29) [.ptr 0 0, .ptr 2 0, .int .i64 o_]) [.obj [.map 1], .map (.int .i64) true ft2 (y), .obj (.int .i64 (r) :: .fz ft0 (r1) false :: .bool (r2) :: .int .i64 (r3) :: .fz ft0 (r4) false :: .bool (r5) :: .int .i64 (r6) :: .fz ft0 (r7) false :: .bool (r8) :: .int .i64 (r9) :: .fz ft0 (r10) false :: .bool (r11) :: .int .i64 (r12) :: .fz ft0 (r13) false :: .bool (r14) :: .int .i64 (r15) :: .fz ft0 (r16) false :: .bool (r17) :: .int .i64 (r18) :: .fz ft0 (r19) false :: .bool (r20) :: .int .i64 (r21) :: .fz ft0 (r22) false :: .bool (r23) :: .int .i64 (r24) :: .fz ft0 (r25) false :: .bool (r26) :: .int .i64 (r27) :: .fz ft0 (r28) false :: .bool (r29) :: [])]) = uexec Tryd.prog (tb5 fu) 300 (pc15_58 fu) 116 (loopBody (codeAt code15 58)) (unpackM (bitsM 15 0x6029) [.ptr 0 0, .ptr 2 0, .int .i64 n_, .agg (.int .i64 x :: .fz ft0 x1 false :: .bool x2 :: .int .i64 x3 :: .fz ft0 x4 false :: .bool x5 :: .int .i64 x6 :: .fz ft0 x7 false :: .bool x8 :: .int .i64 x9 :: .fz ft0 x10 false :: .bool x11 :: .int .i64 x12 :: .fz ft0 x13 false :: .bool x14 :: .int .i64 x15 :: .fz ft0 x16 false :: .bool x17 :: .int .i64 x18 :: .fz ft0 x19 false :: .bool x20 :: .int .i64 x21 :: .fz ft0 x22 false :: .bool x23 :: .int .i64 x24 :: .fz ft0 x25 false :: .bool x26 :: .int .i64 x27 :: .fz ft0 x28 false :: .bool x29 :: []), .int .i64 x30]) [.obj [.map 1], .map (.int .i64) true ft2 y, .obj (.int .i64 r :: .fz ft0 r1 false :: .bool r2 :: .int .i64 r3 :: .fz ft0 r4 false :: .bool r5 :: .int .i64 r6 :: .fz ft0 r7 false :: .bool r8 :: .int .i64 r9 :: .fz ft0 r10 false :: .bool r11 :: .int .i64 r12 :: .fz ft0 r13 false :: .bool r14 :: .int .i64 r15 :: .fz ft0 r16 false :: .bool r17 :: .int .i64 r18 :: .fz ft0 r19 false :: .bool r20 :: .int .i64 r21 :: .fz ft0 r22 false :: .bool r23 :: .int .i64 r24 :: .fz ft0 r25 false :: .bool r26 :: .int .i64 r27 :: .fz ft0 r28 false :: .bool r29 :: [])] (loopK 2 [.live (bitsM 15 0x6029), .gc, .fzC 2 1 ft0, .fzC 2 4 ft0, .fzC 2 7 ft0, .fzC 2 10 ft0, .fzC 2 13 ft0, .fzC 2 16 ft0, .fzC 2 19 ft0, .fzC 2 22 ft0, .fzC 2 25 ft0, .fzC 2 28 ft0, .gc] [.live (bitsM 6 0x39), .gc] (pkP (bitsM 15 0x6029) (t15_58 fu n)) K) := by kernel_rfl

theorem p15_58 (fu : Nat) : SoundPc Tryd.prog 2 code15 (pc15_58 fu) := SoundPc.none _ _ _
theorem s15_58 (fu : Nat) : ∀ n, SoundP Tryd.prog 2 (.loop (loopBody (codeAt code15 58))) (pkP (bitsM 15 0x6029) (t15_58 fu n)) := by
  refine loopP_sound (gin := [.live (bitsM 15 0x6029), .gc, .fzC 2 1 ft0, .fzC 2 4 ft0, .fzC 2 7 ft0, .fzC 2 10 ft0, .fzC 2 13 ft0, .fzC 2 16 ft0, .fzC 2 19 ft0, .fzC 2 22 ft0, .fzC 2 25 ft0, .fzC 2 28 ft0, .gc]) (gout := [.live (bitsM 6 0x39), .gc]) (k := 300) (tb5_sound fu) (p15_58 fu) (by decide) a15_58 (fun R e s K => ?_) (fun n R e s K r h => ?_)
  · unfold t15_58; repeat' split
    all_goals rfl
  · unfold t15_58 at h; split at h
    case h_2 => cases h
    split at h
    case h_2 => cases h
    rename_i hq
    have hq := FT.sames_eq _ _ hq
    subst hq
    split at h
    case h_2 => cases h
    rename_i hq
    have hq := FT.sames_eq _ _ hq
    subst hq
    split at h
    case h_2 => cases h
    rename_i hq
    have hq := FT.sames_eq _ _ hq
    subst hq
    split at h
    case h_2 => cases h
    rename_i hq
    have hq := FT.sames_eq _ _ hq
    subst hq
    split at h
    case h_2 => cases h
    rename_i hq
    have hq := FT.sames_eq _ _ hq
    subst hq
    split at h
    case h_2 => cases h
    rename_i hq
    have hq := FT.sames_eq _ _ hq
    subst hq
    split at h
    case h_2 => cases h
    rename_i hq
    have hq := FT.sames_eq _ _ hq
    subst hq
    split at h
    case h_2 => cases h
    rename_i hq
    have hq := FT.sames_eq _ _ hq
    subst hq
    split at h
    case h_2 => cases h
    rename_i hq
    have hq := FT.sames_eq _ _ hq
    subst hq
    split at h
    case h_2 => cases h
    rename_i hq
    have hq := FT.sames_eq _ _ hq
    subst hq
    split at h
    case h_2 => cases h
    rename_i hq
    have hq := FT.sames_eq _ _ hq
    subst hq
    split at h
    case h_2 => cases h
    rename_i hq
    have hq := FT.sames_eq _ _ hq
    subst hq
    split at h
    case h_2 => cases h
    rename_i hq
    have hq := FT.sames_eq _ _ hq
    subst hq
    split at h
    case h_2 => cases h
    rename_i hq
    have hq := FT.sames_eq _ _ hq
    subst hq
    split at h
    case h_2 => cases h
    rename_i hq
    have hq := FT.sames_eq _ _ hq
    subst hq
    split at h
    case h_2 => cases h
    rename_i hq
    have hq := FT.sames_eq _ _ hq
    subst hq
    split at h
    case h_2 => cases h
    rename_i hq
    have hq := FT.sames_eq _ _ hq
    subst hq
    split at h
    case h_2 => cases h
    rename_i hq
    have hq := FT.sames_eq _ _ hq
    subst hq
    split at h
    case h_2 => cases h
    rename_i hq
    have hq := FT.sames_eq _ _ hq
    subst hq
    split at h
    case h_2 => cases h
    rename_i hq
    have hq := FT.sames_eq _ _ hq
    subst hq
    split at h
    case h_2 => cases h
    rename_i hq
    have hq := FT.sames_eq _ _ hq
    subst hq
    exact (e15_58 fu n R K _ _ _ _ _ _ _ _ _ _ _ _ _ _ _ _ _ _ _ _ _ _ _ _ _ _ _ _ _ _ _ _ _ _ _ _ _ _ _ _ _ _ _ _ _ _ _ _ _ _ _ _ _ _ _ _ _ _ _ _ _ _ _).symm.trans h


noncomputable def Fb15 {R : Type} (fu : Nat) (r : List D) (t_l : List (D × List D)) (k0 : Bool → Option R) : Option R :=
  F15_58 fu (cell 0 r).toInt (cell 1 r).toRows (cell 2 r).toBool (cell 3 r).toInt (cell 4 r).toRows (cell 5 r).toBool (cell 6 r).toInt (cell 7 r).toRows (cell 8 r).toBool (cell 9 r).toInt (cell 10 r).toRows (cell 11 r).toBool (cell 12 r).toInt (cell 13 r).toRows (cell 14 r).toBool (cell 15 r).toInt (cell 16 r).toRows (cell 17 r).toBool (cell 18 r).toInt (cell 19 r).toRows (cell 20 r).toBool (cell 21 r).toInt (cell 22 r).toRows (cell 23 r).toBool (cell 24 r).toInt (cell 25 r).toRows (cell 26 r).toBool (cell 27 r).toInt (cell 28 r).toRows (cell 29 r).toBool t_l fu 0 0 (fun o_0 => (k0 false)) fun o_1 => F16 fu 10 t_l fun o_2 o_3 => bif !o_3 then bif keysOKI t_l then bif decide (ofN (keysD t_l).length = o_1) then bif textOK t_l then F29 fu [D.int (cell 0 r).toInt, D.row (cell 1 r).toRows, D.bool (cell 2 r).toBool, D.int (cell 3 r).toInt, D.row (cell 4 r).toRows, D.bool (cell 5 r).toBool, D.int (cell 6 r).toInt, D.row (cell 7 r).toRows, D.bool (cell 8 r).toBool, D.int (cell 9 r).toInt, D.row (cell 10 r).toRows, D.bool (cell 11 r).toBool, D.int (cell 12 r).toInt, D.row (cell 13 r).toRows, D.bool (cell 14 r).toBool, D.int (cell 15 r).toInt, D.row (cell 16 r).toRows, D.bool (cell 17 r).toBool, D.int (cell 18 r).toInt, D.row (cell 19 r).toRows, D.bool (cell 20 r).toBool, D.int (cell 21 r).toInt, D.row (cell 22 r).toRows, D.bool (cell 23 r).toBool, D.int (cell 24 r).toInt, D.row (cell 25 r).toRows, D.bool (cell 26 r).toBool, D.int (cell 27 r).toInt, D.row (cell 28 r).toRows, D.bool (cell 29 r).toBool] fun o_4 => (k0 (strEq (textD t_l) o_4)) else none else (k0 false) else none else (k0 false)

noncomputable def F15 {R : Type} (fu : Nat) (r : List D) (t_l : List (D × List D)) (k0 : Bool → Option R) : Option R := shut (@Fb15 R) fu r t_l k0
theorem F15_eq {R : Type} (fu : Nat) (r : List D) (t_l : List (D × List D)) (k0 : Bool → Option R) : F15 fu r t_l k0 = Fb15 fu r t_l k0 := by unfold F15; rw [shut_eq]

noncomputable def pc15 (fu : Nat) : Nat → Option ToldP := fun p => match Nat.beq p 58 with | true => some (ghP 2 [.live (bitsM 15 0x6029), .gc, .fzC 2 1 ft0, .fzC 2 4 ft0, .fzC 2 7 ft0, .fzC 2 10 ft0, .fzC 2 13 ft0, .fzC 2 16 ft0, .fzC 2 19 ft0, .fzC 2 22 ft0, .fzC 2 25 ft0, .fzC 2 28 ft0, .gc] (pkP (bitsM 15 0x6029) (t15_58 fu fu))) | false => none
noncomputable def t15 (fu : Nat) : ToldF := fun _ args s K => match args, s with
  | [.ptr 0 0, .agg (.int .i64 q :: .fz zq0 q1 false :: .bool q2 :: .int .i64 q3 :: .fz zq1 q4 false :: .bool q5 :: .int .i64 q6 :: .fz zq2 q7 false :: .bool q8 :: .int .i64 q9 :: .fz zq3 q10 false :: .bool q11 :: .int .i64 q12 :: .fz zq4 q13 false :: .bool q14 :: .int .i64 q15 :: .fz zq5 q16 false :: .bool q17 :: .int .i64 q18 :: .fz zq6 q19 false :: .bool q20 :: .int .i64 q21 :: .fz zq7 q22 false :: .bool q23 :: .int .i64 q24 :: .fz zq8 q25 false :: .bool q26 :: .int .i64 q27 :: .fz zq9 q28 false :: .bool q29 :: [])], [.obj [.map 1], .map (.int .i64) true zq10 t_l] => (match FT.sames zq0 ft0 with | true => (match FT.sames zq1 ft0 with | true => (match FT.sames zq2 ft0 with | true => (match FT.sames zq3 ft0 with | true => (match FT.sames zq4 ft0 with | true => (match FT.sames zq5 ft0 with | true => (match FT.sames zq6 ft0 with | true => (match FT.sames zq7 ft0 with | true => (match FT.sames zq8 ft0 with | true => (match FT.sames zq9 ft0 with | true => (match FT.sames zq10 ft2 with | true => F15 fu ((D.int q :: D.row q1 :: D.bool q2 :: D.int q3 :: D.row q4 :: D.bool q5 :: D.int q6 :: D.row q7 :: D.bool q8 :: D.int q9 :: D.row q10 :: D.bool q11 :: D.int q12 :: D.row q13 :: D.bool q14 :: D.int q15 :: D.row q16 :: D.bool q17 :: D.int q18 :: D.row q19 :: D.bool q20 :: D.int q21 :: D.row q22 :: D.bool q23 :: D.int q24 :: D.row q25 :: D.bool q26 :: D.int q27 :: D.row q28 :: D.bool q29 :: [])) t_l (fun o_ => K (.bool o_) [.obj [.map 1], .map (.int .i64) true ft2 (t_l)]) | false => none) | false => none) | false => none) | false => none) | false => none) | false => none) | false => none) | false => none) | false => none) | false => none) | false => none)
  | _, _ => none

theorem e15 (R : Type) (K : UV → USt → Option R) (fu : Nat) (q : Int) (q1 : List (List D)) (q2 : Bool) (q3 : Int) (q4 : List (List D)) (q5 : Bool) (q6 : Int) (q7 : List (List D)) (q8 : Bool) (q9 : Int) (q10 : List (List D)) (q11 : Bool) (q12 : Int) (q13 : List (List D)) (q14 : Bool) (q15 : Int) (q16 : List (List D)) (q17 : Bool) (q18 : Int) (q19 : List (List D)) (q20 : Bool) (q21 : Int) (q22 : List (List D)) (q23 : Bool) (q24 : Int) (q25 : List (List D)) (q26 : Bool) (q27 : Int) (q28 : List (List D)) (q29 : Bool) (t_l : List (D × List D)) :
    F15 fu ((D.int q :: D.row q1 :: D.bool q2 :: D.int q3 :: D.row q4 :: D.bool q5 :: D.int q6 :: D.row q7 :: D.bool q8 :: D.int q9 :: D.row q10 :: D.bool q11 :: D.int q12 :: D.row q13 :: D.bool q14 :: D.int q15 :: D.row q16 :: D.bool q17 :: D.int q18 :: D.row q19 :: D.bool q20 :: D.int q21 :: D.row q22 :: D.bool q23 :: D.int q24 :: D.row q25 :: D.bool q26 :: D.int q27 :: D.row q28 :: D.bool q29 :: [])) t_l (fun o_ => K (.bool o_) [.obj [.map 1], .map (.int .i64) true ft2 (t_l)]) = ufun Tryd.prog ⟨(tb5 fu), pc15 fu⟩ 300 15 [.ptr 0 0, .agg (.int .i64 q :: .fz ft0 q1 false :: .bool q2 :: .int .i64 q3 :: .fz ft0 q4 false :: .bool q5 :: .int .i64 q6 :: .fz ft0 q7 false :: .bool q8 :: .int .i64 q9 :: .fz ft0 q10 false :: .bool q11 :: .int .i64 q12 :: .fz ft0 q13 false :: .bool q14 :: .int .i64 q15 :: .fz ft0 q16 false :: .bool q17 :: .int .i64 q18 :: .fz ft0 q19 false :: .bool q20 :: .int .i64 q21 :: .fz ft0 q22 false :: .bool q23 :: .int .i64 q24 :: .fz ft0 q25 false :: .bool q26 :: .int .i64 q27 :: .fz ft0 q28 false :: .bool q29 :: [])] [.obj [.map 1], .map (.int .i64) true ft2 t_l] (funK 2 [.gc] K) := (F15_eq fu _ _ _).trans (by kernel_rfl)

theorem s15 (fu : Nat) : Tells Tryd.prog 15 (t15 fu) := by
  refine ufun_sound (T := ⟨(tb5 fu), pc15 fu⟩) (m := 2) (gout := [.gc]) (k := 300) (tb5_sound fu) (fun fn body hf hb => ?_) (fun R args s K r h => ?_) (fun R args s K r h => ?_)
  · have hc : body = code15 := by
      have h1 : Tryd.prog.funcs[15]? = some Tryd.f15 := rfl
      rw [h1] at hf; cases hf
      have h2 : Tryd.f15.body = some code15 := rfl
      rw [h2] at hb; cases hb; rfl
    subst hc
    exact fun p told h b hb => by
      replace h : pc15 fu p = some told := h
      unfold pc15 at h
      split at h
      · rename_i hp
        cases h
        have := Nat.eq_of_beq_eq_true hp
        subst this
        rw [a15_58] at hb
        cases hb
        exact ghP_sound (s15_58 fu _)
      ·
        cases h

  · unfold t15 at h; split at h
    · rfl
    · cases h
  · unfold t15 at h; split at h
    case h_2 => cases h
    split at h
    case h_2 => cases h
    rename_i hq
    have hq := FT.sames_eq _ _ hq
    subst hq
    split at h
    case h_2 => cases h
    rename_i hq
    have hq := FT.sames_eq _ _ hq
    subst hq
    split at h
    case h_2 => cases h
    rename_i hq
    have hq := FT.sames_eq _ _ hq
    subst hq
    split at h
    case h_2 => cases h
    rename_i hq
    have hq := FT.sames_eq _ _ hq
    subst hq
    split at h
    case h_2 => cases h
    rename_i hq
    have hq := FT.sames_eq _ _ hq
    subst hq
    split at h
    case h_2 => cases h
    rename_i hq
    have hq := FT.sames_eq _ _ hq
    subst hq
    split at h
    case h_2 => cases h
    rename_i hq
    have hq := FT.sames_eq _ _ hq
    subst hq
    split at h
    case h_2 => cases h
    rename_i hq
    have hq := FT.sames_eq _ _ hq
    subst hq
    split at h
    case h_2 => cases h
    rename_i hq
    have hq := FT.sames_eq _ _ hq
    subst hq
    split at h
    case h_2 => cases h
    rename_i hq
    have hq := FT.sames_eq _ _ hq
    subst hq
    split at h
    case h_2 => cases h
    rename_i hq
    have hq := FT.sames_eq _ _ hq
    subst hq
    exact (e15 R K fu _ _ _ _ _ _ _ _ _ _ _ _ _ _ _ _ _ _ _ _ _ _ _ _ _ _ _ _ _ _ _).symm.trans h

noncomputable def tb15 (fu : Nat) : FuncId → Option (Bool × ToldF) := fun f => match Nat.beq f 15 with
  | true => some (false, ghG [.fzP 1 [1] ft0, .fzP 1 [4] ft0, .fzP 1 [7] ft0, .fzP 1 [10] ft0, .fzP 1 [13] ft0, .fzP 1 [16] ft0, .fzP 1 [19] ft0, .fzP 1 [22] ft0, .fzP 1 [25] ft0, .fzP 1 [28] ft0, .gc, .gc] (t15 fu))
  | false => (tb5 fu) f
theorem tb15_sound (fu : Nat) : SoundF' Tryd.prog (tb15 fu) := by
  intro f own told h
  unfold tb15 at h
  split at h
  · rename_i hb
    cases h
    have := Nat.eq_of_beq_eq_true hb
    subst this
    exact ghG_sound (s15 fu)
  · exact (tb5_sound fu) f own told h

end Go.Proofs.YtlakjegifgonbaaDoor.V

/- Printed by ugen: daisychain/daisychainlaw13.MasterDoes -/
namespace Go.Proofs.YtlakjegifgonbaaDoor.V
set_option maxRecDepth 100000
set_option maxHeartbeats 4000000


noncomputable def code3 : Code := match Tryd.f3.body with | some c => c | none => .skip
theorem a3_506 : codeAt code3 506 = some (.loop (loopBody (codeAt code3 506))) := by kernel_rfl
noncomputable def F3_506 {R : Type} (fu : Nat) (x : List (List D)) (x1 : Int) : Nat → Int → Int → (List (List D)) → Bool → Int → (List (List D)) → Bool → Int → (List (List D)) → Bool → Int → (List (List D)) → Bool → Int → (List (List D)) → Bool → Int → (List (List D)) → Bool → Int → (List (List D)) → Bool → Int → (List (List D)) → Bool → Int → (List (List D)) → Bool → Int → (List (List D)) → Bool → (List (D × List D)) → (Option R) → (Option R) → Option R
  | 0, _, _, _, _, _, _, _, _, _, _, _, _, _, _, _, _, _, _, _, _, _, _, _, _, _, _, _, _, _, _, _, _, _, _ => none
  | n + 1, x2, r, r1, r2, r3, r4, r5, r6, r7, r8, r9, r10, r11, r12, r13, r14, r15, r16, r17, r18, r19, r20, r21, r22, r23, r24, r25, r26, r27, r28, r29, y, k0, k1 => bif decide (x2 < x1) then bif within x2 x.length then F13 fu [D.int (cell 0 (elem x2.toNat x)).toInt, D.int (cell 1 (elem x2.toNat x)).toInt, D.int (cell 2 (elem x2.toNat x)).toInt, D.int (cell 3 (elem x2.toNat x)).toInt, D.row (cell 4 (elem x2.toNat x)).toRows] fun o_0 => F12 fu [D.int r, D.row r1, D.bool r2, D.int r3, D.row r4, D.bool r5, D.int r6, D.row r7, D.bool r8, D.int r9, D.row r10, D.bool r11, D.int r12, D.row r13, D.bool r14, D.int r15, D.row r16, D.bool r17, D.int r18, D.row r19, D.bool r20, D.int r21, D.row r22, D.bool r23, D.int r24, D.row r25, D.bool r26, D.int r27, D.row r28, D.bool r29] [D.int (cell 0 o_0).toInt, D.int (cell 1 o_0).toInt, D.int (cell 2 o_0).toInt, D.int (cell 3 o_0).toInt, D.row (cell 4 o_0).toRows] fun o_1 o_2 => F14 fu [D.int (cell 0 (elem x2.toNat x)).toInt, D.int (cell 1 (elem x2.toNat x)).toInt, D.int (cell 2 (elem x2.toNat x)).toInt, D.int (cell 3 (elem x2.toNat x)).toInt, D.row (cell 4 (elem x2.toNat x)).toRows] y fun o_3 o_4 => bif !decide (o_3 = o_2) then (k0) else F15 fu [D.int (cell 0 o_1).toInt, D.row (cell 1 o_1).toRows, D.bool (cell 2 o_1).toBool, D.int (cell 3 o_1).toInt, D.row (cell 4 o_1).toRows, D.bool (cell 5 o_1).toBool, D.int (cell 6 o_1).toInt, D.row (cell 7 o_1).toRows, D.bool (cell 8 o_1).toBool, D.int (cell 9 o_1).toInt, D.row (cell 10 o_1).toRows, D.bool (cell 11 o_1).toBool, D.int (cell 12 o_1).toInt, D.row (cell 13 o_1).toRows, D.bool (cell 14 o_1).toBool, D.int (cell 15 o_1).toInt, D.row (cell 16 o_1).toRows, D.bool (cell 17 o_1).toBool, D.int (cell 18 o_1).toInt, D.row (cell 19 o_1).toRows, D.bool (cell 20 o_1).toBool, D.int (cell 21 o_1).toInt, D.row (cell 22 o_1).toRows, D.bool (cell 23 o_1).toBool, D.int (cell 24 o_1).toInt, D.row (cell 25 o_1).toRows, D.bool (cell 26 o_1).toBool, D.int (cell 27 o_1).toInt, D.row (cell 28 o_1).toRows, D.bool (cell 29 o_1).toBool] o_4 fun o_5 => bif !o_5 then (k0) else (F3_506 fu x x1 n (IntKind.i64.wrap (x2 + 1)) ((cell 0 o_1).toInt) ((cell 1 o_1).toRows) ((cell 2 o_1).toBool) ((cell 3 o_1).toInt) ((cell 4 o_1).toRows) ((cell 5 o_1).toBool) ((cell 6 o_1).toInt) ((cell 7 o_1).toRows) ((cell 8 o_1).toBool) ((cell 9 o_1).toInt) ((cell 10 o_1).toRows) ((cell 11 o_1).toBool) ((cell 12 o_1).toInt) ((cell 13 o_1).toRows) ((cell 14 o_1).toBool) ((cell 15 o_1).toInt) ((cell 16 o_1).toRows) ((cell 17 o_1).toBool) ((cell 18 o_1).toInt) ((cell 19 o_1).toRows) ((cell 20 o_1).toBool) ((cell 21 o_1).toInt) ((cell 22 o_1).toRows) ((cell 23 o_1).toBool) ((cell 24 o_1).toInt) ((cell 25 o_1).toRows) ((cell 26 o_1).toBool) ((cell 27 o_1).toInt) ((cell 28 o_1).toRows) ((cell 29 o_1).toBool) o_4 k0 k1) else none else (k1)

noncomputable def t3_506 (fu n : Nat) : ToldP := fun _ e s K => match e, s with
  | [.ptr 0 0, .ptr 1 0, .fz zq0 x false, .int .i64 x1, .int .i64 x2], [.obj [.map 2], .obj (.int .i64 r :: .fz zq1 r1 false :: .bool r2 :: .int .i64 r3 :: .fz zq2 r4 false :: .bool r5 :: .int .i64 r6 :: .fz zq3 r7 false :: .bool r8 :: .int .i64 r9 :: .fz zq4 r10 false :: .bool r11 :: .int .i64 r12 :: .fz zq5 r13 false :: .bool r14 :: .int .i64 r15 :: .fz zq6 r16 false :: .bool r17 :: .int .i64 r18 :: .fz zq7 r19 false :: .bool r20 :: .int .i64 r21 :: .fz zq8 r22 false :: .bool r23 :: .int .i64 r24 :: .fz zq9 r25 false :: .bool r26 :: .int .i64 r27 :: .fz zq10 r28 false :: .bool r29 :: []), .map (.int .i64) true zq11 y] => (match FT.sames zq0 ft1 with | true => (match FT.sames zq1 ft0 with | true => (match FT.sames zq2 ft0 with | true => (match FT.sames zq3 ft0 with | true => (match FT.sames zq4 ft0 with | true => (match FT.sames zq5 ft0 with | true => (match FT.sames zq6 ft0 with | true => (match FT.sames zq7 ft0 with | true => (match FT.sames zq8 ft0 with | true => (match FT.sames zq9 ft0 with | true => (match FT.sames zq10 ft0 with | true => (match FT.sames zq11 ft2 with | true => F3_506 fu x x1 n x2 r r1 r2 r3 r4 r5 r6 r7 r8 r9 r10 r11 r12 r13 r14 r15 r16 r17 r18 r19 r20 r21 r22 r23 r24 r25 r26 r27 r28 r29 y (K .ret (unpackM (bitsM 3 0x4) [.bool (false)]) []) (K (.exit 0) (unpackM (bitsM 3 0x0) []) []) | false => none) | false => none) | false => none) | false => none) | false => none) | false => none) | false => none) | false => none) | false => none) | false => none) | false => none) | false => none)
  | _, _ => none

noncomputable def pc3_506 (fu : Nat) : Nat → Option ToldP := fun _ => none
theorem e3_506 (fu n : Nat) (R : Type) (K : VExit → UEnv → USt → Option R) (x : List (List D)) (x1 : Int) (x2 : Int) (r : Int) (r1 : List (List D)) (r2 : Bool) (r3 : Int) (r4 : List (List D)) (r5 : Bool) (r6 : Int) (r7 : List (List D)) (r8 : Bool) (r9 : Int) (r10 : List (List D)) (r11 : Bool) (r12 : Int) (r13 : List (List D)) (r14 : Bool) (r15 : Int) (r16 : List (List D)) (r17 : Bool) (r18 : Int) (r19 : List (List D)) (r20 : Bool) (r21 : Int) (r22 : List (List D)) (r23 : Bool) (r24 : Int) (r25 : List (List D)) (r26 : Bool) (r27 : Int) (r28 : List (List D)) (r29 : Bool) (y : List (D × List D)) :
    F3_506 fu x x1 (n + 1) x2 r r1 r2 r3 r4 r5 r6 r7 r8 r9 r10 r11 r12 r13 r14 r15 r16 r17 r18 r19 r20 r21 r22 r23 r24 r25 r26 r27 r28 r29 y (K .ret (unpackM (bitsM 3 0x4) [.bool (false)]) []) (K (.exit 0) (unpackM (bitsM 3 0x0) []) []) = uexec Tryd.prog (tb15 fu) 300 (pc3_506 fu) 1012 (loopBody (codeAt code3 506)) (unpackM (bitsM 19 0x70018) [.ptr 0 0, .ptr 1 0, .fz ft1 x false, .int .i64 x1, .int .i64 x2]) [.obj [.map 2], .obj (.int .i64 r :: .fz ft0 r1 false :: .bool r2 :: .int .i64 r3 :: .fz ft0 r4 false :: .bool r5 :: .int .i64 r6 :: .fz ft0 r7 false :: .bool r8 :: .int .i64 r9 :: .fz ft0 r10 false :: .bool r11 :: .int .i64 r12 :: .fz ft0 r13 false :: .bool r14 :: .int .i64 r15 :: .fz ft0 r16 false :: .bool r17 :: .int .i64 r18 :: .fz ft0 r19 false :: .bool r20 :: .int .i64 r21 :: .fz ft0 r22 false :: .bool r23 :: .int .i64 r24 :: .fz ft0 r25 false :: .bool r26 :: .int .i64 r27 :: .fz ft0 r28 false :: .bool r29 :: []), .map (.int .i64) true ft2 y] (loopK 0 [.live (bitsM 19 0x70018), .fzP 16 [] ft1, .gc, .fzC 1 1 ft0, .fzC 1 4 ft0, .fzC 1 7 ft0, .fzC 1 10 ft0, .fzC 1 13 ft0, .fzC 1 16 ft0, .fzC 1 19 ft0, .fzC 1 22 ft0, .fzC 1 25 ft0, .fzC 1 28 ft0, .gc] [.live (bitsM 3 0x4), .gc] (pkP (bitsM 19 0x70018) (t3_506 fu n)) K) := by kernel_rfl

theorem p3_506 (fu : Nat) : SoundPc Tryd.prog 0 code3 (pc3_506 fu) := SoundPc.none _ _ _
theorem s3_506 (fu : Nat) : ∀ n, SoundP Tryd.prog 0 (.loop (loopBody (codeAt code3 506))) (pkP (bitsM 19 0x70018) (t3_506 fu n)) := by
  refine loopP_sound (gin := [.live (bitsM 19 0x70018), .fzP 16 [] ft1, .gc, .fzC 1 1 ft0, .fzC 1 4 ft0, .fzC 1 7 ft0, .fzC 1 10 ft0, .fzC 1 13 ft0, .fzC 1 16 ft0, .fzC 1 19 ft0, .fzC 1 22 ft0, .fzC 1 25 ft0, .fzC 1 28 ft0, .gc]) (gout := [.live (bitsM 3 0x4), .gc]) (k := 300) (tb15_sound fu) (p3_506 fu) (by decide) a3_506 (fun R e s K => ?_) (fun n R e s K r h => ?_)
  · unfold t3_506; repeat' split
    all_goals rfl
  · unfold t3_506 at h; split at h
    case h_2 => cases h
    split at h
    case h_2 => cases h
    rename_i hq
    have hq := FT.sames_eq _ _ hq
    subst hq
    split at h
    case h_2 => cases h
    rename_i hq
    have hq := FT.sames_eq _ _ hq
    subst hq
    split at h
    case h_2 => cases h
    rename_i hq
    have hq := FT.sames_eq _ _ hq
    subst hq
    split at h
    case h_2 => cases h
    rename_i hq
    have hq := FT.sames_eq _ _ hq
    subst hq
    split at h
    case h_2 => cases h
    rename_i hq
    have hq := FT.sames_eq _ _ hq
    subst hq
    split at h
    case h_2 => cases h
    rename_i hq
    have hq := FT.sames_eq _ _ hq
    subst hq
    split at h
    case h_2 => cases h
    rename_i hq
    have hq := FT.sames_eq _ _ hq
    subst hq
    split at h
    case h_2 => cases h
    rename_i hq
    have hq := FT.sames_eq _ _ hq
    subst hq
    split at h
    case h_2 => cases h
    rename_i hq
    have hq := FT.sames_eq _ _ hq
    subst hq
    split at h
    case h_2 => cases h
    rename_i hq
    have hq := FT.sames_eq _ _ hq
    subst hq
    split at h
    case h_2 => cases h
    rename_i hq
    have hq := FT.sames_eq _ _ hq
    subst hq
    split at h
    case h_2 => cases h
    rename_i hq
    have hq := FT.sames_eq _ _ hq
    subst hq
    exact (e3_506 fu n R K _ _ _ _ _ _ _ _ _ _ _ _ _ _ _ _ _ _ _ _ _ _ _ _ _ _ _ _ _ _ _ _ _ _).symm.trans h


noncomputable def Fb3 {R : Type} (fu : Nat) (l : List (List D)) (k0 : Bool → Option R) : Option R :=
  F9 fu l fun o_0 => bif !o_0 then F10 fu ((k0 true)) else F11 fu (F3_506 fu l (ofN l.length) fu 0 0 [] false 0 [] false 0 [] false 0 [] false 0 [] false 0 [] false 0 [] false 0 [] false 0 [] false 0 [] false [] ((k0 false)) (F10 fu ((k0 true))))

noncomputable def F3 {R : Type} (fu : Nat) (l : List (List D)) (k0 : Bool → Option R) : Option R := shut (@Fb3 R) fu l k0
theorem F3_eq {R : Type} (fu : Nat) (l : List (List D)) (k0 : Bool → Option R) : F3 fu l k0 = Fb3 fu l k0 := by unfold F3; rw [shut_eq]

noncomputable def pc3 (fu : Nat) : Nat → Option ToldP := fun p => match Nat.beq p 506 with | true => some (ghP 0 [.live (bitsM 19 0x70018), .fzP 16 [] ft1, .gc, .fzC 1 1 ft0, .fzC 1 4 ft0, .fzC 1 7 ft0, .fzC 1 10 ft0, .fzC 1 13 ft0, .fzC 1 16 ft0, .fzC 1 19 ft0, .fzC 1 22 ft0, .fzC 1 25 ft0, .fzC 1 28 ft0, .gc] (pkP (bitsM 19 0x70018) (t3_506 fu fu))) | false => none
noncomputable def t3 (fu : Nat) : ToldF := fun _ args s K => match args, s with
  | [.fz zq0 l false], [] => (match FT.sames zq0 ft1 with | true => F3 fu l (fun o_ => K (.bool o_) []) | false => none)
  | _, _ => none

theorem e3 (R : Type) (K : UV → USt → Option R) (fu : Nat) (l : List (List D)) :
    F3 fu l (fun o_ => K (.bool o_) []) = ufun Tryd.prog ⟨(tb15 fu), pc3 fu⟩ 300 3 [.fz ft1 l false] [] (funK 0 [.gc] K) := (F3_eq fu _ _).trans (by kernel_rfl)

theorem s3 (fu : Nat) : Tells Tryd.prog 3 (t3 fu) := by
  refine ufun_sound (T := ⟨(tb15 fu), pc3 fu⟩) (m := 0) (gout := [.gc]) (k := 300) (tb15_sound fu) (fun fn body hf hb => ?_) (fun R args s K r h => ?_) (fun R args s K r h => ?_)
  · have hc : body = code3 := by
      have h1 : Tryd.prog.funcs[3]? = some Tryd.f3 := rfl
      rw [h1] at hf; cases hf
      have h2 : Tryd.f3.body = some code3 := rfl
      rw [h2] at hb; cases hb; rfl
    subst hc
    exact fun p told h b hb => by
      replace h : pc3 fu p = some told := h
      unfold pc3 at h
      split at h
      · rename_i hp
        cases h
        have := Nat.eq_of_beq_eq_true hp
        subst this
        rw [a3_506] at hb
        cases hb
        exact ghP_sound (s3_506 fu _)
      ·
        cases h

  · unfold t3 at h; split at h
    · rfl
    · cases h
  · unfold t3 at h; split at h
    case h_2 => cases h
    split at h
    case h_2 => cases h
    rename_i hq
    have hq := FT.sames_eq _ _ hq
    subst hq
    exact (e3 R K fu _).symm.trans h

noncomputable def tb3 (fu : Nat) : FuncId → Option (Bool × ToldF) := fun f => match Nat.beq f 3 with
  | true => some (false, ghG [.fzP 0 [] ft1] (t3 fu))
  | false => (tb15 fu) f
theorem tb3_sound (fu : Nat) : SoundF' Tryd.prog (tb3 fu) := by
  intro f own told h
  unfold tb3 at h
  split at h
  · rename_i hb
    cases h
    have := Nat.eq_of_beq_eq_true hb
    subst this
    exact ghG_sound (s3 fu)
  · exact (tb15_sound fu) f own told h

end Go.Proofs.YtlakjegifgonbaaDoor.V

/- From the plain law of function 3 to V's. -/
namespace Go.Proofs.YtlakjegifgonbaaDoor.V

theorem law3 (fu : Nat) (H : ∀ (ds1 : List D), WFDs [FT.row 56 [FT.int IntKind.i64, FT.int IntKind.i64, FT.int IntKind.i64, FT.int IntKind.i64, FT.row 8 [FT.int IntKind.i64]]] ds1 → F3 fu ((cell 0 ds1).toRows) (fun o => some o) = some true) : Law Tryd.prog 3 Tryd.f3.params.toList := by
  refine law_of_told (by kernel_rfl) (by kernel_rfl) seatX_sound (s3 fu) (fun dss hw => ?_)
  have hts : Tryd.f3.params.toList = [22] := rfl
  rw [hts] at hw
  cases hw with
  | cons t1 ts1 fts1 ds1 dss1 hf1 hd1 hr1 =>
    have e1 : flat Tryd.prog 20 22 = some [FT.row 56 [FT.int IntKind.i64, FT.int IntKind.i64, FT.int IntKind.i64, FT.int IntKind.i64, FT.row 8 [FT.int IntKind.i64]]] := by kernel_rfl
    rw [e1] at hf1; cases hf1
    cases hr1
    have h1 : t3 fu Bool (argsU Tryd.prog Tryd.f3.params.toList [ds1]) [] boolK = F3 fu ((cell 0 ds1).toRows) (fun o => some o) := by kernel_rfl
    exact h1.trans (H ds1 hd1)
end Go.Proofs.YtlakjegifgonbaaDoor.V

/- master: a table's keys and its text: plain laws. -/
namespace Go.Proofs.YtlakjegifgonbaaDoor.V
variable {R : Type} {es : List (D × List D)} {T : Tb}

/-- The shards that have a configuration. -/
def ks (T : Tb) : List Nat := (List.range 10).filter fun k => (T k).isSome

theorem mem_ks {T : Tb} {k : Nat} : k ∈ ks T ↔ k < 10 ∧ ∃ c, T k = some c := by
  unfold ks
  rw [List.mem_filter, List.mem_range, Option.isSome_iff_exists]

theorem ks_len (T : Tb) : (ks T).length ≤ 10 := by
  unfold ks
  have := List.length_filter_le (fun k => (T k).isSome) (List.range 10)
  rwa [List.length_range] at this

theorem ks_nd (T : Tb) : (ks T).Nodup := (List.filter_sublist (p := fun k => (T k).isSome)).nodup List.nodup_range

theorem Rep.perm (h : Rep es T) {i : Nat} (g : Good T i) : (es.map (·.1)).Perm ((ks T).map fun k : Nat => D.int (k : Int)) := by
  refine (List.perm_ext_iff_of_nodup h.nd ?_).2 fun d => ?_
  · exact (ks_nd T).map _ (fun a b hab e => hab (by injection e with e; omega))
  · constructor
    · intro hd
      obtain ⟨p, hp, rfl⟩ := List.mem_map.1 hd
      obtain ⟨k, c, hk, rfl⟩ := (h.mem p).1 hp
      exact List.mem_map.2 ⟨k, mem_ks.2 ⟨g.lt k c hk, c, hk⟩, rfl⟩
    · intro hd
      obtain ⟨k, hk, rfl⟩ := List.mem_map.1 hd
      obtain ⟨_, c, hc⟩ := mem_ks.1 hk
      exact List.mem_map.2 ⟨_, (h.mem _).2 ⟨k, c, hc, rfl⟩, rfl⟩

theorem Rep.len (h : Rep es T) {i : Nat} (g : Good T i) : es.length = (ks T).length := by
  have := (h.perm g).length_eq
  simpa using this

def leZ (a b : Int) : Bool := decide (a ≤ b)

theorem ks_sorted (T : Tb) : ((ks T).map fun k : Nat => (k : Int)).Pairwise (fun a b => leZ a b = true) := by
  refine List.pairwise_map.2 ?_
  have : (List.range 10).Pairwise (fun a b : Nat => leZ (a : Int) (b : Int) = true) := List.pairwise_lt_range.imp (fun {a b} h => by unfold leZ; exact decide_eq_true (by omega))
  exact this.sublist (List.filter_sublist)

theorem Rep.sorted (h : Rep es T) {i : Nat} (g : Good T i) : sortK keyLeD (es.map (·.1)) = (ks T).map fun k : Nat => D.int (k : Int) := by
  obtain ⟨ns, hns⟩ : ∃ ns : List Int, es.map (·.1) = ns.map D.int := by
    have hk := h.keys
    clear h g
    induction es with
    | nil => exact ⟨[], rfl⟩
    | cons p r ih =>
      obtain ⟨n, hn⟩ := hk p List.mem_cons_self
      obtain ⟨ns, h2⟩ := ih (fun q hq => hk q (List.mem_cons_of_mem _ hq))
      exact ⟨n :: ns, by rw [List.map_cons, List.map_cons, hn, h2]⟩
  have hp := h.perm g
  rw [hns] at hp ⊢
  rw [sortK_map D.int leZ keyLeD (fun a b => rfl)]
  have hpi : ns.Perm ((ks T).map fun k : Nat => (k : Int)) := by
    have := hp.map D.toInt
    rw [List.map_map, List.map_map] at this
    simpa [Function.comp_def, D.toInt] using this
  have tr : ∀ a b c : Int, leZ a b = true → leZ b c = true → leZ a c = true := fun a b c h1 h2 => by simp only [leZ, decide_eq_true_eq] at *; omega
  have to2 : ∀ a b : Int, leZ a b = false → leZ b a = true := fun a b h => by simp only [leZ, decide_eq_true_eq, decide_eq_false_iff_not] at *; omega
  have : sortK leZ ns = (ks T).map fun k : Nat => (k : Int) := by
    refine List.Perm.eq_of_pairwise (le := fun a b => leZ a b = true) (fun a b _ _ h1 h2 => ?_) (pair_sortK leZ tr to2 ns) (ks_sorted T) ((perm_sortK leZ ns).trans hpi)
    simp only [leZ, decide_eq_true_eq] at h1 h2; omega
  rw [this, List.map_map]; rfl

/-- A table's text. -/
def lineT (T : Tb) (k : Nat) : List UInt8 := match T k with | some c => lineD (.int (k : Int)) c.d | none => []
def textL (T : Tb) : List UInt8 := ((List.range 10).map (lineT T)).flatten
def textT (T : Tb) : ByteArray := ⟨(textL T).toArray⟩

theorem linesD_eq (h : Rep es T) : ∀ l : List Nat, (∀ k ∈ l, ∃ c, T k = some c) → linesD es (l.map fun k : Nat => D.int (k : Int)) = (l.map (lineT T)).flatten
  | [], _ => rfl
  | k :: l, hl => by
    obtain ⟨c, hc⟩ := hl k List.mem_cons_self
    rw [List.map_cons, linesD, linesD_eq h l (fun q hq => hl q (List.mem_cons_of_mem _ hq)), List.map_cons, List.flatten_cons, (h.get hc []).1]
    unfold lineT
    rw [hc]

theorem filter_flat (f : Nat → List UInt8) (p : Nat → Bool) (hp : ∀ k, p k = false → f k = []) : ∀ l : List Nat, ((l.filter p).map f).flatten = (l.map f).flatten
  | [] => rfl
  | k :: l => by
    cases hk : p k with
    | true => rw [List.filter_cons_of_pos hk, List.map_cons, List.map_cons, List.flatten_cons, List.flatten_cons, filter_flat f p hp l]
    | false => rw [List.filter_cons_of_neg (by simp [hk]), List.map_cons, List.flatten_cons, hp k hk, List.nil_append, filter_flat f p hp l]

theorem Rep.text (h : Rep es T) {i : Nat} (g : Good T i) : textD es = textT T := by
  unfold textD textT textL
  rw [h.sorted g, linesD_eq h (ks T) (fun k hk => (mem_ks.1 hk).2)]
  unfold ks
  rw [filter_flat]
  intro k hk
  unfold lineT
  cases hT : T k with
  | none => rfl
  | some c => rw [hT] at hk; cases hk

theorem smallN_of {n : Int} (h0 : 0 ≤ n) (h1 : n < 100) : smallN n = true := decide_eq_true ⟨h0, h1⟩

theorem smallRows_of {c : Cf} {i : Nat} (h : CfOK c i) : smallRows c.m = true := by
  unfold smallRows
  have h0 := h.l0; have h1 := h.l1
  rw [decide_eq_true ⟨h0, by omega⟩, Bool.true_and, List.all_eq_true]
  intro r hr
  have := h.m.2 (cell 0 r).toInt (List.mem_map.2 ⟨r, hr, rfl⟩)
  exact smallN_of this.1 this.2

theorem Rep.textOK (h : Rep es T) {i : Nat} (g : Good T i) (hi : i ≤ 98) : textOK es = true := by
  unfold V.textOK
  have hl := ks_len T
  rw [← h.len g] at hl
  rw [decide_eq_true (show es.length ≤ 100 by omega), Bool.true_and, List.all_eq_true]
  intro p hp
  obtain ⟨k, c, hk, rfl⟩ := (h.mem p).1 hp
  have hlt := g.lt k c hk
  have hc := g.ok k c hk
  have e0 := hc.e0; have e1 := hc.e1
  show (smallN (k : Int) && smallN (cell 0 c.d).toInt && smallRows (cell 1 c.d).toRows) = true
  rw [cd0, cd1, smallN_of (by omega) (by omega), smallN_of (by omega) (by omega), smallRows_of hc]; rfl

theorem Rep.keysOK (h : Rep es T) {i : Nat} (g : Good T i) : keysOKI es = true := by
  unfold keysOKI
  have hl := ks_len T
  rw [← h.len g] at hl
  have : ∀ {l : List (D × List D)}, (∀ p ∈ l, intKeyD p.1 = true) → allKeys intKeyD l = true := by
    intro l
    induction l with
    | nil => intro _; rfl
    | cons p r ih =>
      intro hp
      simp only [allKeys, hp p List.mem_cons_self, ih (fun q hq => hp q (List.mem_cons_of_mem _ hq)), Bool.and_self]
  rw [this (fun p hp => by
    obtain ⟨k, c, hk, rfl⟩ := (h.mem p).1 hp
    have hlt := g.lt k c hk
    show decide _ = true
    exact decide_eq_true ⟨by omega, by omega⟩), Bool.true_and]
  unfold maxBytes
  exact decide_eq_true (by omega)

theorem Rep.keysD (h : Rep es T) {i : Nat} (g : Good T i) : keysD es = (ks T).map fun k : Nat => [D.int (k : Int)] := by
  unfold V.keysD
  rw [h.sorted g, List.map_map]; rfl

/-- Where an order is refused, nothing changes. -/
theorem aDo_same (kd sh ep nd : Int) (mb : List (List D)) (h : (aDo T kd sh ep nd mb).1 ≠ 0) : (aDo T kd sh ep nd mb).2 = T := by
  unfold aDo aOne at h ⊢
  repeat' (first | split at h | split)
  all_goals first | rfl | (exact absurd rfl h) | skip
end Go.Proofs.YtlakjegifgonbaaDoor.V

/- master: MasterOrders' plain law. -/
namespace Go.Proofs.YtlakjegifgonbaaDoor.V
variable {R : Type}

/-- An order, as data. -/
abbrev ordOf (x : List D) : List D := [D.int (cell 0 x).toInt, D.int (cell 1 x).toInt, D.int (cell 2 x).toInt, D.int (cell 3 x).toInt, D.row (cell 4 x).toRows]
def aOrd (T : Tb) (x : List D) : Int × Tb := aDo T (cell 0 x).toInt (cell 1 x).toInt (cell 2 x).toInt (cell 3 x).toInt (cell 4 x).toRows

theorem F14_at {fu : Nat} (hf : 1100 ≤ fu) {es : List (D × List D)} {T : Tb} (h : Rep es T) {i : Nat} (g : Good T i) (hi : i ≤ 1000) (x : List D) (hx : (cell 4 x).toRows.length ≤ 20) :
    ∃ es', Rep es' (aOrd T x).2 ∧ Good (aOrd T x).2 (i + 1) ∧ ∀ (R : Type) (k0 : Int → List (D × List D) → Option R), F14 fu (ordOf x) es k0 = k0 (aOrd T x).1 es' := by
  obtain ⟨es', h1, h2⟩ := F14_ok hf h g hi (cell 0 x).toInt (cell 1 x).toInt (cell 2 x).toInt (cell 3 x).toInt (cell 4 x).toRows (by omega)
  exact ⟨es', h1, good_aDo g _ _ _ _ _, h2⟩

theorem F16_any {fu : Nat} {es : List (D × List D)} {T : Tb} (h : Rep es T) {i : Nat} (g : Good T i) (n : Int) :
    ∃ (cd : List D) (b : Bool), (∀ (R : Type) (k0 : List D → Bool → Option R), F16 fu n es k0 = k0 cd b) ∧ ((b = true ∧ ∃ (k : Nat) (c : Cf), n = (k : Int) ∧ T k = some c ∧ cd = c.d) ∨ (b = false ∧ cd = [D.int 0, D.row [], D.bool false] ∧ ∀ k : Nat, n = (k : Int) → T k = none)) := by
  by_cases hn : n < 0
  · exact ⟨_, false, fun R k0 => F16_neg h hn k0, .inr ⟨rfl, rfl, fun k hk => by omega⟩⟩
  · obtain ⟨k, rfl⟩ : ∃ k : Nat, n = (k : Int) := ⟨n.toNat, by omega⟩
    cases hT : T k with
    | some c => exact ⟨c.d, true, fun R k0 => by rw [F16_ok h g k, hT], .inl ⟨rfl, k, c, rfl, hT, rfl⟩⟩
    | none =>
      refine ⟨_, false, fun R k0 => by rw [F16_ok h g k, hT], .inr ⟨rfl, rfl, fun q hq => ?_⟩⟩
      have e : q = k := by omega
      subst e; exact hT

theorem loop5 {fu : Nat} (hf : 1100 ≤ fu) (l : List (List D)) (hl : l.length ≤ 60) (hb : ∀ x ∈ l, (cell 4 x).toRows.length ≤ 20) : ∀ (r p : List (List D)) (n : Nat) (es : List (D × List D)) (T : Tb), r.length < n → l = p ++ r → Rep es T → Good T p.length →
    ∃ es' T', Rep es' T' ∧ Good T' l.length ∧ ∀ (R : Type) (k0 : List (D × List D) → Option R), F5_250 fu l (ofN l.length) n p.length es k0 = k0 es'
  | [], p, n + 1, es, T, _, e, h, g => by
    rw [List.append_nil] at e; subst e
    exact ⟨es, T, h, g, fun R k0 => by rw [F5_250, natge (Nat.le_refl _)]; rfl⟩
  | x :: r, p, n + 1, es, T, hn, e, h, g => by
    have h1 : p.length < l.length := by rw [e]; simp
    have hx : elem p.length l = x := by rw [e]; exact elem_mid p r x
    have hin : x ∈ l := by rw [e]; simp
    obtain ⟨es1, r1, g1, q1⟩ := F14_at hf h g (by omega) x (hb x hin)
    obtain ⟨es2, T2, r2, g2, q2⟩ := loop5 hf l hl hb r (p ++ [x]) n es1 _ (by simp at hn; omega) (by rw [e]; simp) r1 (by rw [show (p ++ [x]).length = p.length + 1 by simp]; exact g1)
    refine ⟨es2, T2, r2, g2, fun R k0 => ?_⟩
    rw [F5_250, natlt h1, cond_true, within_of h1, cond_true, Int.toNat_natCast, hx, q1, wrap_succ (by omega)]
    have := q2 R k0
    rwa [show (p ++ [x]).length = p.length + 1 by simp] at this

theorem fewB_iff (l : List (List D)) : fewB l = true ↔ l.length ≤ 60 ∧ ∀ r ∈ l, (cell 4 r).toRows.length ≤ 20 := by
  unfold fewB; rw [decide_eq_true_eq]

theorem orders5 {fu : Nat} (hf : 1100 ≤ fu) (l : List (List D)) (o : List D) : F5 fu l o (fun x => some x) = some true := by
  rw [F5_eq, Fb5, F9_ok hf]
  cases hfew : fewB l with
  | false => rw [Bool.not_false, cond_true, F10_ok]
  | true =>
    rw [Bool.not_true, cond_false, F9_ok hf]
    cases hfew2 : fewB [ordOf o] with
    | false => rw [Bool.not_false, cond_true, F10_ok]
    | true =>
      rw [Bool.not_true, cond_false, F11_ok]
      obtain ⟨hl, hb⟩ := (fewB_iff l).1 hfew
      have ho : (cell 4 o).toRows.length ≤ 20 := ((fewB_iff _).1 hfew2).2 (ordOf o) List.mem_cons_self
      obtain ⟨es1, T1, r1, g1, q1⟩ := loop5 hf l hl hb l [] fu [] _ (by omega) rfl Rep.nil Good.nil
      have q1' : ∀ (k0 : List (D × List D) → Option Bool), F5_250 fu l (ofN l.length) fu 0 [] k0 = k0 es1 := fun k0 => q1 Bool k0
      rw [q1']
      obtain ⟨cd, is, q2, q3⟩ := F16_any (fu := fu) r1 g1 (cell 1 o).toInt
      rw [q2, r1.textOK g1 (by omega), cond_true]
      obtain ⟨es2, r2, g2, q4⟩ := F14_at hf r1 g1 (by omega) o ho
      rw [q4]
      simp only [F10_ok]
      -- an order for another epoch is refused as such
      have key : 1 ≤ (cell 0 o).toInt → (cell 0 o).toInt ≤ 3 → is = true → ¬ (cell 0 cd).toInt = (cell 2 o).toInt → (aOrd T1 o).1 = 11 := by
        intro k1 k2 k3 k4
        rcases q3 with ⟨_, k, c, e1, e2, e3⟩ | ⟨e, _⟩
        · rw [e3, cd0] at k4
          have hk := g1.lt k c e2
          unfold aOrd aDo
          rw [e1, if_neg (by omega), if_neg (by omega), Int.toNat_natCast, e2]
          simp only [if_neg k4]
        · rw [k3] at e; cases e
      have tail : (bif decide (1 ≤ (cell 0 o).toInt) then bif decide ((cell 0 o).toInt ≤ 3) then bif is then bif !decide ((cell 0 cd).toInt = (cell 2 o).toInt) then bif !decide ((aOrd T1 o).1 = 11) then some false else some true else some true else some true else some true else some true) = some true := by
        by_cases k1 : 1 ≤ (cell 0 o).toInt
        · rw [le_true k1, cond_true]
          by_cases k2 : (cell 0 o).toInt ≤ 3
          · rw [le_true k2, cond_true]
            cases his : is with
            | false => rfl
            | true =>
              rw [cond_true]
              by_cases k4 : (cell 0 cd).toInt = (cell 2 o).toInt
              · rw [eq_true k4]; rfl
              · rw [eq_false k4, Bool.not_false, cond_true, eq_true (key k1 k2 his k4)]; rfl
          · rw [le_false k2]; rfl
        · rw [le_false k1]; rfl
      by_cases h0 : (aOrd T1 o).1 = 0
      · rw [eq_true h0, Bool.not_true, cond_false]
        exact tail
      · rw [eq_false h0, Bool.not_false, cond_true, r2.textOK g2 (by omega), cond_true]
        have hs : (aOrd T1 o).2 = T1 := aDo_same _ _ _ _ _ h0
        have ht : textD es2 = textD es1 := by
          rw [r2.text g2, r1.text g1, hs]
        rw [ht, strEq_refl, Bool.not_true, cond_false]
        exact tail
end Go.Proofs.YtlakjegifgonbaaDoor.V

/- master: the document's table and its text: plain laws. -/
namespace Go.Proofs.YtlakjegifgonbaaDoor.V
variable {R : Type} {es : List (D × List D)} {T : Tb}

def e_ (T : Tb) (k : Nat) : Int := match T k with | some c => c.e | none => 0
def m_ (T : Tb) (k : Nat) : List (List D) := match T k with | some c => c.m | none => []
def j_ (T : Tb) (k : Nat) : Bool := match T k with | some c => c.j | none => false

/-- The document's table. -/
def tD (T : Tb) : List D := D.int (e_ T 0) :: D.row (m_ T 0) :: D.bool (j_ T 0) :: D.int (e_ T 1) :: D.row (m_ T 1) :: D.bool (j_ T 1) :: D.int (e_ T 2) :: D.row (m_ T 2) :: D.bool (j_ T 2) :: D.int (e_ T 3) :: D.row (m_ T 3) :: D.bool (j_ T 3) :: D.int (e_ T 4) :: D.row (m_ T 4) :: D.bool (j_ T 4) :: D.int (e_ T 5) :: D.row (m_ T 5) :: D.bool (j_ T 5) :: D.int (e_ T 6) :: D.row (m_ T 6) :: D.bool (j_ T 6) :: D.int (e_ T 7) :: D.row (m_ T 7) :: D.bool (j_ T 7) :: D.int (e_ T 8) :: D.row (m_ T 8) :: D.bool (j_ T 8) :: D.int (e_ T 9) :: D.row (m_ T 9) :: D.bool (j_ T 9) :: []
def tR (T : Tb) : List (List D) := [[D.int (e_ T 0), D.row (m_ T 0), D.bool (j_ T 0)], [D.int (e_ T 1), D.row (m_ T 1), D.bool (j_ T 1)], [D.int (e_ T 2), D.row (m_ T 2), D.bool (j_ T 2)], [D.int (e_ T 3), D.row (m_ T 3), D.bool (j_ T 3)], [D.int (e_ T 4), D.row (m_ T 4), D.bool (j_ T 4)], [D.int (e_ T 5), D.row (m_ T 5), D.bool (j_ T 5)], [D.int (e_ T 6), D.row (m_ T 6), D.bool (j_ T 6)], [D.int (e_ T 7), D.row (m_ T 7), D.bool (j_ T 7)], [D.int (e_ T 8), D.row (m_ T 8), D.bool (j_ T 8)], [D.int (e_ T 9), D.row (m_ T 9), D.bool (j_ T 9)]]

theorem elemT (T : Tb) {k : Nat} (h : k < 10) : elem k [[D.int (e_ T 0), D.row (m_ T 0), D.bool (j_ T 0)], [D.int (e_ T 1), D.row (m_ T 1), D.bool (j_ T 1)], [D.int (e_ T 2), D.row (m_ T 2), D.bool (j_ T 2)], [D.int (e_ T 3), D.row (m_ T 3), D.bool (j_ T 3)], [D.int (e_ T 4), D.row (m_ T 4), D.bool (j_ T 4)], [D.int (e_ T 5), D.row (m_ T 5), D.bool (j_ T 5)], [D.int (e_ T 6), D.row (m_ T 6), D.bool (j_ T 6)], [D.int (e_ T 7), D.row (m_ T 7), D.bool (j_ T 7)], [D.int (e_ T 8), D.row (m_ T 8), D.bool (j_ T 8)], [D.int (e_ T 9), D.row (m_ T 9), D.bool (j_ T 9)]] = [D.int (e_ T k), D.row (m_ T k), D.bool (j_ T k)] := by
  rcases k with _ | _ | _ | _ | _ | _ | _ | _ | _ | _ | k <;> first | rfl | omega

theorem rowsT (T : Tb) : rowsA30 (tD T) = tR T := rfl

theorem elemR (T : Tb) {k : Nat} (h : k < 10) : elem k (rowsA30 (tD T)) = [D.int (e_ T k), D.row (m_ T k), D.bool (j_ T k)] := elemT T h

theorem putT (T : Tb) {k : Nat} (h : k < 10) (c : Cf) : cellsA30 (putAt (rowsA30 (tD T)) k 0 [D.int c.e, D.row c.m, D.bool c.j]) = tD (upd T k c) := by
  rcases k with _ | _ | _ | _ | _ | _ | _ | _ | _ | _ | k <;> first | rfl | omega

theorem ct0 (e : Int) (m : List (List D)) (j : Bool) : (cell 0 [D.int e, D.row m, D.bool j]).toInt = e := of_eq_true (eq_self _)

theorem F16_T {fu : Nat} (h : Rep es T) {i : Nat} (g : Good T i) (k : Nat) (k0 : List D → Bool → Option R) :
    F16 fu (k : Nat) es k0 = k0 [D.int (e_ T k), D.row (m_ T k), D.bool (j_ T k)] (T k).isSome := by
  rw [F16_ok h g k]
  unfold e_ m_ j_
  cases T k <;> rfl

theorem e_pos {i : Nat} (g : Good T i) (k : Nat) : decide (0 < e_ T k) = (T k).isSome := by
  unfold e_
  cases h : T k with
  | none => rfl
  | some c => have := (g.ok k c h).e0; exact decide_eq_true (by show 0 < c.e; omega)

/-! Numbers as text. -/
theorem bapp (a b : List UInt8) : (⟨a.toArray⟩ : ByteArray) ++ ⟨b.toArray⟩ = ⟨(a ++ b).toArray⟩ := by
  apply ByteArray.ext
  rw [ByteArray.data_append]
  simp

theorem bsize (a : List UInt8) : (⟨a.toArray⟩ : ByteArray).size = a.length := by simp [ByteArray.size]

def bs (l : List UInt8) : ByteArray := ⟨l.toArray⟩
theorem bs_app (a b : List UInt8) : bs a ++ bs b = bs (a ++ b) := bapp a b
theorem bs_size (a : List UInt8) : (bs a).size = a.length := bsize a

theorem digs_len (n : Nat) : (digs n).length ≤ 2 := by unfold digs; split <;> simp

theorem size_ok {a b : Nat} (h : a + b ≤ 1000000) : decide (((a + b : Nat) : Int) ≤ IntKind.i64.max) = true :=
  decide_eq_true (by have : IntKind.i64.max = 9223372036854775807 := by decide
                     omega)

theorem dig1 {n : Nat} (h : n < 10) : (ByteArray.mk #[48, 49, 50, 51, 52, 53, 54, 55, 56, 57]).extract n (n + 1) = bs (digs n) := by
  rcases n with _ | _ | _ | _ | _ | _ | _ | _ | _ | _ | n <;> first | rfl | omega

theorem F49_1 {fu q n : Nat} (h : n < 10) (k0 : ByteArray → Option R) : F49 fu (q + 1) (n : Int) k0 = k0 (bs (digs n)) := by
  rw [F49, lt_false (show ¬ (n : Int) < 0 by omega), cond_false, lt_true (show (n : Int) < 10 by omega), cond_true, wrap_succ (by omega)]
  have hu : (decide ((0 : Int) ≤ (n : Int) ∧ (n : Int) ≤ ((n + 1 : Nat) : Int)) && upTo ((n + 1 : Nat) : Int) 10) = true := by
    unfold upTo; rw [decide_eq_true ⟨by omega, by omega⟩, decide_eq_true ⟨by omega, by omega⟩]; rfl
  rw [hu, cond_true, Int.toNat_natCast, Int.toNat_natCast, dig1 h]

theorem F49_ok {fu q n : Nat} (h : n < 100) (k0 : ByteArray → Option R) : F49 fu (q + 2) (n : Int) k0 = k0 (bs (digs n)) := by
  by_cases h1 : n < 10
  · exact F49_1 h1 k0
  · rw [F49, lt_false (show ¬ (n : Int) < 0 by omega), cond_false, lt_false (show ¬ (n : Int) < 10 by omega), cond_false]
    have d1 : IntKind.i64.wrap ((n : Int).tdiv 10) = ((n / 10 : Nat) : Int) := by
      rw [show (n : Int).tdiv 10 = ((n / 10 : Nat) : Int) from rfl, wrap_of (by omega) (by omega)]
    have d2 : (n : Int).tmod 10 = ((n % 10 : Nat) : Int) := rfl
    rw [d1, d2, F49_1 (by omega)]
    rw [F49_1 (by omega)]
    have s1 : digs (n / 10) = [UInt8.ofNat (48 + n / 10)] := by unfold digs; rw [if_pos (by omega)]
    have s2 : digs (n % 10) = [UInt8.ofNat (48 + n % 10)] := by unfold digs; rw [if_pos (by omega)]
    have s3 : digs n = [UInt8.ofNat (48 + n / 10), UInt8.ofNat (48 + n % 10)] := by unfold digs; rw [if_neg h1]
    rw [bs_size, bs_size, size_ok (by rw [s1, s2]; show 1 + 1 ≤ 1000000; omega), cond_true, bs_app, s1, s2, s3]; rfl

theorem joinL_snoc (s y : List UInt8) : ∀ xs : List (List UInt8), xs ≠ [] → joinL (xs ++ [y]) s = joinL xs s ++ s ++ y
  | [], h => absurd rfl h
  | [x], _ => rfl
  | x :: z :: r, _ => by
    have := joinL_snoc s y (z :: r) (by simp)
    show x ++ s ++ joinL ((z :: r) ++ [y]) s = (x ++ s ++ joinL (z :: r) s) ++ s ++ y
    rw [this]; simp

theorem joinL_len (xs : List (List UInt8)) (h : ∀ x ∈ xs, x.length ≤ 2) : (joinL xs [32]).length ≤ 3 * xs.length := by
  induction xs with
  | nil => simp [joinL]
  | cons x r ih =>
    have h1 := h x List.mem_cons_self
    have h2 := ih (fun y hy => h y (List.mem_cons_of_mem _ hy))
    cases r with
    | nil => simp only [joinL, List.length_cons, List.length_nil]; omega
    | cons y r =>
      simp only [joinL, List.length_append, List.length_cons, List.length_nil] at h2 ⊢
      omega

theorem rowL_len (ns : List Nat) : (rowL ns).length ≤ 3 * ns.length := by
  unfold rowL
  have := joinL_len (ns.map digs) (fun x hx => by obtain ⟨n, _, rfl⟩ := List.mem_map.1 hx; exact digs_len n)
  rwa [List.length_map] at this

def natsOf (l : List (List D)) : List Nat := (vals l).map Int.toNat

theorem loop42 {fu : Nat} (hf : 1100 ≤ fu) (l : List (List D)) (hl : l.length ≤ 100) (hv : ∀ n ∈ vals l, 0 ≤ n ∧ n < 100) (k0 : ByteArray → Option R) : ∀ (r p : List (List D)) (n : Nat), r.length < n → l = p ++ r →
    F42_58 fu l n (bs (rowL (natsOf p))) p.length k0 = k0 (bs (rowL (natsOf l)))
  | [], p, n + 1, _, e => by
    rw [List.append_nil] at e; subst e
    rw [F42_58, natge (Nat.le_refl _)]; rfl
  | x :: r, p, n + 1, hn, e => by
    have h1 : p.length < l.length := by rw [e]; simp
    have hx : elem p.length l = x := by rw [e]; exact elem_mid p r x
    have hin : (cell 0 x).toInt ∈ vals l := by rw [e, vals_app]; exact List.mem_append.2 (.inr List.mem_cons_self)
    obtain ⟨v0, v1⟩ := hv _ hin
    obtain ⟨q, hq⟩ : ∃ q : Nat, (cell 0 x).toInt = (q : Int) := ⟨(cell 0 x).toInt.toNat, by omega⟩
    obtain ⟨fu', hfu⟩ : ∃ f, fu = f + 2 := ⟨fu - 2, by omega⟩
    have hd : ∀ k1 : ByteArray → Option R, F49 fu fu (cell 0 x).toInt k1 = k1 (bs (digs q)) := by
      intro k1
      rw [hq]
      have := F49_ok (fu := fu) (q := fu') (n := q) (by omega) k1
      rw [← hfu] at this; exact this
    have hnat : natsOf (p ++ [x]) = natsOf p ++ [q] := by
      unfold natsOf; rw [vals_app, List.map_append]
      show _ ++ [(cell 0 x).toInt.toNat] = _
      rw [hq, Int.toNat_natCast]
    have hrl := rowL_len (natsOf p)
    have hnl : (natsOf p).length = p.length := by unfold natsOf; rw [List.length_map, vals_len]
    have hdl := digs_len q
    have next := loop42 hf l hl hv k0 r (p ++ [x]) n (by simp at hn; omega) (by rw [e]; simp)
    rw [show (p ++ [x]).length = p.length + 1 by simp, hnat] at next
    rw [F42_58, natlt h1, cond_true, wrap_succ (by omega)]
    by_cases h0 : 0 < p.length
    · have hne : (natsOf p).map digs ≠ [] := by
        intro h
        have h3 : ((natsOf p).map digs).length = 0 := by rw [h]; rfl
        rw [List.length_map, hnl] at h3
        omega
      have hs : rowL (natsOf p ++ [q]) = rowL (natsOf p) ++ [32] ++ digs q := by
        unfold rowL; rw [List.map_append]; exact joinL_snoc [32] (digs q) _ hne
      rw [lt_true (show (0 : Int) < (p.length : Int) by omega), cond_true, within_of h1, cond_true, Int.toNat_natCast, hx, hd]
      have z1 := size_ok (a := (rowL (natsOf p)).length) (b := ([32] : List UInt8).length) (by have : ([32] : List UInt8).length = 1 := rfl; omega)
      have z2 := size_ok (a := (rowL (natsOf p) ++ [32]).length) (b := (digs q).length) (by have : ([32] : List UInt8).length = 1 := rfl; rw [List.length_append]; omega)
      rw [show (ByteArray.mk #[32]) = bs [32] from rfl, bs_size, bs_size, z1, cond_true, bs_app, bs_size, bs_size, z2, cond_true, bs_app]
      rw [hs] at next; exact next
    · have hp : p = [] := List.length_eq_zero_iff.1 (by omega)
      subst hp
      rw [lt_false (show ¬ (0 : Int) < (([] : List (List D)).length : Int) by simp), cond_false, within_of h1, cond_true, Int.toNat_natCast, hx, hd]
      have z0 : (rowL (natsOf ([] : List (List D)))).length = 0 := rfl
      have z1 := size_ok (a := (rowL (natsOf ([] : List (List D)))).length) (b := (digs q).length) (by omega)
      rw [bs_size, bs_size, z1, cond_true, bs_app]
      exact next

theorem F42_ok {fu : Nat} (hf : 1100 ≤ fu) {l : List (List D)} (hl : l.length ≤ 100) (hv : ∀ n ∈ vals l, 0 ≤ n ∧ n < 100) (k0 : ByteArray → Option R) : F42 fu l k0 = k0 (bs (rowL (natsOf l))) := by
  rw [F42_eq, Fb42]
  exact loop42 hf l hl hv k0 l [] fu (by omega) rfl

/-! The document's text. -/
theorem lineT_some {k : Nat} {c : Cf} (h : T k = some c) : lineT T k = rowL (natsOf ([[D.int (k : Int)], [D.int c.e], [D.int (if c.j then 1 else 0)]] ++ c.m)) ++ [10] := by
  unfold lineT
  rw [h]
  show lineD (.int (k : Int)) c.d = _
  unfold lineD natsOf
  rw [cd0, cd1, cd2, vals_app, List.map_append]
  show rowL ((k : Int).toNat :: c.e.toNat :: (if c.j = true then 1 else 0) :: numsD c.m) ++ [10] = rowL ([(k : Int).toNat, c.e.toNat, (if c.j = true then (1 : Int) else 0).toNat] ++ (vals c.m).map Int.toNat) ++ [10]
  have h1 : (if c.j = true then (1 : Int) else 0).toNat = (if c.j = true then 1 else 0) := by cases c.j <;> rfl
  have h2 : numsD c.m = (vals c.m).map Int.toNat := by unfold numsD vals; rw [List.map_map]; rfl
  rw [h1, h2]; rfl

def outT (T : Tb) (k : Nat) : List UInt8 := ((List.range k).map (lineT T)).flatten
theorem outT_succ (T : Tb) (k : Nat) : outT T (k + 1) = outT T k ++ lineT T k := by unfold outT; rw [List.range_succ, List.map_append, List.flatten_append]; simp

theorem lineT_len {i : Nat} (g : Good T i) (k : Nat) : (lineT T k).length ≤ 100 := by
  cases h : T k with
  | none => unfold lineT; rw [h]; simp
  | some c =>
    rw [lineT_some h, List.length_append]
    have := rowL_len (natsOf ([[D.int (k : Int)], [D.int c.e], [D.int (if c.j then 1 else 0)]] ++ c.m))
    have hl := (g.ok k c h).l1
    unfold natsOf at this ⊢
    rw [List.length_map, vals_len, List.length_append] at this
    simp only [List.length_cons, List.length_nil] at this ⊢
    omega

theorem outT_len {i : Nat} (g : Good T i) : ∀ k, (outT T k).length ≤ 100 * k
  | 0 => by simp [outT]
  | k + 1 => by
    rw [outT_succ, List.length_append]
    have := outT_len g k; have := lineT_len g k; omega

set_option maxHeartbeats 1000000 in
theorem loop29 {fu : Nat} (hf : 1100 ≤ fu) {i : Nat} (g : Good T i) (hi : i ≤ 98) (k0 : ByteArray → Option R) : ∀ (d k n : Nat), d < n → k + d = 10 →
    F29_58 fu (e_ T 0) (m_ T 0) (j_ T 0) (e_ T 1) (m_ T 1) (j_ T 1) (e_ T 2) (m_ T 2) (j_ T 2) (e_ T 3) (m_ T 3) (j_ T 3) (e_ T 4) (m_ T 4) (j_ T 4) (e_ T 5) (m_ T 5) (j_ T 5) (e_ T 6) (m_ T 6) (j_ T 6) (e_ T 7) (m_ T 7) (j_ T 7) (e_ T 8) (m_ T 8) (j_ T 8) (e_ T 9) (m_ T 9) (j_ T 9) n (bs (outT T k)) (k : Int) k0 = k0 (bs (outT T 10))
  | 0, k, n + 1, _, e => by
    have : k = 10 := by omega
    subst this
    rw [F29_58, lt_false (show ¬ ((10 : Nat) : Int) < 10 by omega)]; rfl
  | d + 1, k, n + 1, hn, e => by
    have next := loop29 hf g hi k0 d (k + 1) n (by omega) (by omega)
    have hk : k < 10 := by omega
    rw [F29_58, lt_true (show (k : Int) < 10 by omega), cond_true, show within (k : Int) 10 = true from within_of hk, cond_true, Int.toNat_natCast, elemT T hk, wrap_succ (by omega), ct0, cfg1, cfg2]
    rw [outT_succ] at next
    have hol := outT_len g k
    have hll := lineT_len g k
    cases h : T k with
    | none =>
      have he : e_ T k = 0 := by unfold e_; rw [h]
      rw [eq_true he, cond_true]
      have hln : lineT T k = [] := by unfold lineT; rw [h]
      rw [hln, List.append_nil] at next
      exact next
    | some c =>
      have hc := g.ok k c h
      have e0 := hc.e0; have e1 := hc.e1; have l0 := hc.l0; have l1 := hc.l1
      have he : e_ T k = c.e := by unfold e_; rw [h]
      have hm : m_ T k = c.m := by unfold m_; rw [h]
      have hj : j_ T k = c.j := by unfold j_; rw [h]
      rw [he, hm, hj, eq_false (show ¬ c.e = 0 by omega), cond_false]
      have hv : ∀ b : Int, 0 ≤ b ∧ b ≤ 1 → ∀ n ∈ vals ([[D.int (k : Int)], [D.int c.e], [D.int b]] ++ c.m), 0 ≤ n ∧ n < 100 := by
        intro b hb n hn
        rw [vals_app] at hn
        rcases List.mem_append.1 hn with hn | hn
        · have hn : n ∈ [(k : Int), c.e, b] := hn
          simp only [List.mem_cons, List.not_mem_nil, or_false] at hn
          omega
        · exact hc.m.2 n hn
      have hlen : ∀ b : Int, ([[D.int (k : Int)], [D.int c.e], [D.int b]] ++ c.m).length ≤ 100 := by intro b; simp; omega
      have hline := lineT_some h
      cases hcj : c.j with
      | true =>
        rw [hcj] at hline
        rw [cond_true, fits_of (show 3 + c.m.length ≤ 1000000 by omega) (by omega), cond_true, F42_ok hf (hlen 1) (hv 1 (by omega))]
        rw [show (if true = true then (1 : Int) else 0) = 1 from rfl] at hline
        rw [hline, List.length_append] at hll
        simp only [List.length_cons, List.length_nil] at hll
        rw [bs_size, bs_size, size_ok (by omega), cond_true, bs_app, show (ByteArray.mk #[10]) = bs [10] from rfl, bs_size, bs_size, size_ok (by simp only [List.length_append, List.length_cons, List.length_nil] at hll ⊢; omega), cond_true, bs_app, List.append_assoc, ← hline]
        exact next
      | false =>
        rw [hcj] at hline
        rw [cond_false, fits_of (show 3 + c.m.length ≤ 1000000 by omega) (by omega), cond_true, F42_ok hf (hlen 0) (hv 0 (by omega))]
        rw [show (if false = true then (1 : Int) else 0) = 0 from rfl] at hline
        rw [hline, List.length_append] at hll
        simp only [List.length_cons, List.length_nil] at hll
        rw [bs_size, bs_size, size_ok (by omega), cond_true, bs_app, show (ByteArray.mk #[10]) = bs [10] from rfl, bs_size, bs_size, size_ok (by simp only [List.length_append, List.length_cons, List.length_nil] at hll ⊢; omega), cond_true, bs_app, List.append_assoc, ← hline]
        exact next

theorem F29_ok {fu : Nat} (hf : 1100 ≤ fu) {i : Nat} (g : Good T i) (hi : i ≤ 98) (k0 : ByteArray → Option R) : F29 fu (tD T) k0 = k0 (textT T) := by
  rw [F29_eq, Fb29]
  exact loop29 hf g hi k0 10 0 fu (by omega) rfl
end Go.Proofs.YtlakjegifgonbaaDoor.V

/- master: the document does an order as it is meant: plain laws. -/
namespace Go.Proofs.YtlakjegifgonbaaDoor.V
variable {R : Type} {es : List (D × List D)} {T : Tb}

theorem ite_cases (p : Prop) [Decidable p] : (p ∧ (if p then 1 else 0 : Nat) = 1) ∨ (¬ p ∧ (if p then 1 else 0 : Nat) = 0) := by
  by_cases h : p
  · exact .inl ⟨h, if_pos h⟩
  · exact .inr ⟨h, if_neg h⟩

theorem loop12 (fu : Nat) (m : List (List D)) (c2 : Bool) (k : Nat) (hk : k < m.length) (hl : m.length ≤ 1000) (k0 : Int → Option R) (lf : Nat) (hlf : lf + 1 + (if c2 = true ∧ m.length - 1 ≠ k then 1 else 0) = m.length) : ∀ (d i n left : Nat), d < n → i + d = m.length →
    left + (if k < i then 1 else 0) + (if c2 = true ∧ m.length - 1 < i ∧ m.length - 1 ≠ k then 1 else 0) = i → F12_523610 fu (k : Int) ((m.length : Int) - 1) m c2 n (left : Int) (i : Int) k0 = k0 (lf : Int)
  | 0, i, n + 1, left, _, e, h => by
    have hi : i = m.length := by omega
    rw [F12_523610, natge (by omega), cond_false]
    have : left = lf := by
      subst hi
      rw [if_pos hk] at h
      by_cases q : c2 = true ∧ m.length - 1 ≠ k
      · rw [if_pos q] at hlf
        rw [if_pos ⟨q.1, by omega, q.2⟩] at h; omega
      · rw [if_neg q] at hlf
        rw [if_neg (fun w => q ⟨w.1, w.2.2⟩)] at h; omega
    rw [this]
  | d + 1, i, n + 1, left, hn, e, h => by
    have hlt : i < m.length := by omega
    have next := fun (l' : Nat) (h' : l' + (if k < i + 1 then 1 else 0) + (if c2 = true ∧ m.length - 1 < i + 1 ∧ m.length - 1 ≠ k then 1 else 0) = i + 1) => loop12 fu m c2 k hk hl k0 lf hlf d (i + 1) n l' (by omega) (by omega) h'
    have hle : left ≤ i := by omega
    rw [F12_523610, natlt hlt, cond_true, wrap_succ (show i ≤ 9223372036854775806 by omega), wrap_succ (show left ≤ 9223372036854775806 by omega)]
    have c1 := ite_cases (k < i)
    have c3 := ite_cases (k < i + 1)
    generalize (if k < i then 1 else 0 : Nat) = A at h c1
    generalize (if k < i + 1 then 1 else 0 : Nat) = B at next c3
    cases c2 with
    | false =>
      simp only [Bool.false_eq_true, false_and, if_false, Nat.add_zero] at h next
      rw [cond_false]
      by_cases q : i = k
      · rw [eq_true (show (i : Int) = (k : Int) by omega), Bool.not_true, cond_false]
        exact next left (by omega)
      · rw [eq_false (show ¬ (i : Int) = (k : Int) by omega), Bool.not_false, cond_true]
        exact next (left + 1) (by omega)
    | true =>
      simp only [true_and] at h next
      have c4 := ite_cases (m.length - 1 < i ∧ m.length - 1 ≠ k)
      have c5 := ite_cases (m.length - 1 < i + 1 ∧ m.length - 1 ≠ k)
      generalize (if m.length - 1 < i ∧ m.length - 1 ≠ k then 1 else 0 : Nat) = C at h c4
      generalize (if m.length - 1 < i + 1 ∧ m.length - 1 ≠ k then 1 else 0 : Nat) = E at next c5
      rw [cond_true]
      by_cases q : i = k
      · rw [eq_true (show (i : Int) = (k : Int) by omega), Bool.not_true, cond_false]
        exact next left (by omega)
      · rw [eq_false (show ¬ (i : Int) = (k : Int) by omega), Bool.not_false, cond_true]
        by_cases w : i + 1 = m.length
        · rw [eq_true (show (i : Int) = (m.length : Int) - 1 by omega), Bool.not_true, cond_false]
          exact next left (by omega)
        · rw [eq_false (show ¬ (i : Int) = (m.length : Int) - 1 by omega), Bool.not_false, cond_true]
          exact next (left + 1) (by omega)

theorem tD_at {k : Nat} {c : Cf} (h : T k = some c) : e_ T k = c.e ∧ m_ T k = c.m ∧ j_ T k = c.j := by unfold e_ m_ j_; rw [h]; exact ⟨rfl, rfl, rfl⟩

set_option maxHeartbeats 4000000 in
theorem F12_ok {fu : Nat} (hf : 1100 ≤ fu) {i : Nat} (g : Good T i) (hi : i ≤ 1000) (kd sh ep nd : Int) (mb : List (List D)) (hmb : mb.length ≤ 1000) (k0 : List D → Int → Option R) :
    F12 fu (tD T) [D.int kd, D.int sh, D.int ep, D.int nd, D.row mb] k0 = k0 (tD (aDo T kd sh ep nd mb).2) (aDo T kd sh ep nd mb).1 := by
  rw [F12_eq, Fb12, or0, or1, or2, or3, or4]
  unfold aDo
  by_cases h0 : kd < 0 ∨ 3 < kd ∨ sh < 0 ∨ 10 ≤ sh
  · rw [if_pos h0]
    by_cases a1 : kd < 0
    · rw [lt_true a1]; rfl
    · rw [lt_false a1, cond_false]
      by_cases a2 : 3 < kd
      · rw [lt_true a2]; rfl
      · rw [lt_false a2, cond_false]
        by_cases a3 : sh < 0
        · rw [lt_true a3]; rfl
        · rw [lt_false a3, cond_false, lt_true (show 9 < sh by omega)]; rfl
  · rw [if_neg h0]
    obtain ⟨s, rfl⟩ : ∃ s : Nat, sh = (s : Int) := ⟨sh.toNat, by omega⟩
    have hs : s < 10 := by omega
    obtain ⟨b1, b2, b3, b4⟩ : ¬ kd < 0 ∧ ¬ 3 < kd ∧ ¬ (s : Int) < 0 ∧ ¬ 9 < (s : Int) := by omega
    have hwi : within (s : Int) 10 = true := within_of hs
    rw [Int.toNat_natCast, lt_false b1, cond_false, lt_false b2, cond_false, lt_false b3, cond_false, lt_false b4, cond_false, hwi, cond_true, elemR T hs, cfg0, cfg1, cfg2, e_pos g s]
    by_cases h1 : kd = 0
    · rw [if_pos h1, eq_true h1, cond_true]
      cases hT : T s with
      | some c => rfl
      | none =>
        simp only [Option.isSome_none, cond_false]
        rw [F24_ok hf hmb]
        by_cases hm : memOK (vals mb) = true
        · rw [if_pos hm, hm, Bool.not_true, cond_false, fits_of (show 0 + mb.length ≤ 1000000 by omega) (by omega), cond_true, cond_true, putT T hs ⟨1, mb, false⟩]
        · rw [if_neg hm]
          rw [Bool.not_eq_true] at hm
          rw [hm]; rfl
    · rw [if_neg h1, eq_false h1, cond_false]
      cases hT : T s with
      | none =>
        have he : e_ T s = 0 := by unfold e_; rw [hT]
        rw [he]; rfl
      | some c =>
        obtain ⟨t1, t2, t3⟩ := tD_at hT
        have hc := g.ok _ _ hT
        obtain ⟨l0, l1, e0, e1⟩ : 1 ≤ c.m.length ∧ c.m.length ≤ 7 ∧ 1 ≤ c.e ∧ c.e ≤ i + 1 := ⟨hc.l0, hc.l1, hc.e0, hc.e1⟩
        rw [t1, t2, t3, eq_false (show ¬ c.e = 0 by omega), cond_false]
        simp only
        by_cases he : c.e = ep
        · rw [if_pos he, eq_true he, Bool.not_true, cond_false, F21_ok hf (by omega)]
          have hw : IntKind.i64.wrap (ofN c.m.length - 1) = (c.m.length : Int) - 1 := by unfold ofN; rw [wrap_of (by omega) (by omega)]
          have hw3 : IntKind.i64.wrap (c.e + 1) = c.e + 1 := wrap_of (by omega) (by omega)
          rw [hw, hw3]
          unfold aOne
          by_cases h3 : kd = 1
          · rw [if_pos h3, eq_true h3, cond_true]
            cases hx : ix (vals c.m) nd with
            | none =>
              have ha : atI (vals c.m) nd = -1 := by unfold atI; rw [hx]
              rw [ha]; rfl
            | some k =>
              simp only
              have hk : k < c.m.length := by have := ix_lt hx; rwa [vals_len] at this
              have ha : atI (vals c.m) nd = (k : Int) := by unfold atI; rw [hx]
              rw [ha, lt_false (show ¬ (k : Int) < 0 by omega), cond_false]
              -- how many are left
              have hlf : ∃ lf : Nat, lf + 1 + (if c.j = true ∧ c.m.length - 1 ≠ k then 1 else 0) = c.m.length ∧ (lf = 0 ↔ (¬ (c.j = true ∧ k + 1 = c.m.length) ∧ (if c.j then c.m.length - 1 else c.m.length) < 2)) := by
                cases hj : c.j with
                | false =>
                  refine ⟨c.m.length - 1, by simp; omega, ?_⟩
                  simp; omega
                | true =>
                  have hj2 := hc.j hj
                  by_cases q : c.m.length - 1 = k
                  · refine ⟨c.m.length - 1, by rw [if_neg (by omega)]; omega, ?_⟩
                    simp; omega
                  · refine ⟨c.m.length - 2, by rw [if_pos ⟨rfl, q⟩]; omega, ?_⟩
                    simp; omega
              obtain ⟨lf, hlf1, hlf2⟩ := hlf
              have hloop : ∀ kk : Int → Option R, F12_523610 fu (k : Int) ((c.m.length : Int) - 1) c.m c.j fu 0 0 kk = kk (lf : Int) := fun kk =>
                loop12 fu c.m c.j k hk (by omega) kk lf hlf1 c.m.length 0 fu 0 (by omega) (by omega) (by rw [if_neg (by omega), if_neg (by omega)])
              rw [hloop]
              by_cases h4 : ¬ (c.j = true ∧ k + 1 = c.m.length) ∧ (if c.j then c.m.length - 1 else c.m.length) < 2
              · rw [if_pos h4, eq_true (show (lf : Int) = 0 by have := hlf2.2 h4; omega)]; rfl
              · rw [if_neg h4, eq_false (show ¬ (lf : Int) = 0 by intro e; exact h4 (hlf2.1 (by omega))), cond_false]
                have hw2 : IntKind.i64.wrap ((k : Int) + 1) = ((k + 1 : Nat) : Int) := wrap_succ (by omega)
                have u1 : (decide ((0 : Int) ≤ 0 ∧ (0 : Int) ≤ (k : Int)) && upTo (k : Int) c.m.length) = true := by
                  unfold upTo; rw [decide_eq_true ⟨by omega, by omega⟩, decide_eq_true ⟨by omega, by omega⟩]; rfl
                have u2 : (decide ((0 : Int) ≤ ((k + 1 : Nat) : Int) ∧ ((k + 1 : Nat) : Int) ≤ ofN c.m.length) && upTo (ofN c.m.length) c.m.length) = true := by
                  unfold upTo ofN; rw [decide_eq_true ⟨by omega, by omega⟩, decide_eq_true ⟨by omega, by omega⟩]; rfl
                have p1 : part c.m 0 k = c.m.take k := by unfold part; rw [List.drop_zero]
                have p2 : part c.m (k + 1) c.m.length = c.m.drop (k + 1) := by unfold part; rw [List.take_length]
                have n1 : (ofN c.m.length).toNat = c.m.length := by unfold ofN; rw [Int.toNat_natCast]
                rw [u1, cond_true, hw2, Int.toNat_natCast, Int.toNat_natCast, n1, p1, p2, u2, cond_true, fits_of (show 0 + (c.m.take k).length ≤ 1000000 by simp; omega) (by omega), cond_true, fits_of (show (c.m.take k).length + (c.m.drop (k + 1)).length ≤ 1000000 by simp; omega) (by omega), cond_true]
                have hda : c.m.take k ++ c.m.drop (k + 1) = delAt c.m k (k + 1) := rfl
                rw [hda]
                cases hj : c.j with
                | true =>
                  rw [cond_true, cond_true, Bool.true_and]
                  have hd : decide ((k : Int) = (c.m.length : Int) - 1) = decide (k + 1 = c.m.length) := by
                    by_cases q : k + 1 = c.m.length
                    · rw [decide_eq_true q, decide_eq_true (show (k : Int) = (c.m.length : Int) - 1 by omega)]
                    · rw [decide_eq_false q, decide_eq_false (show ¬ (k : Int) = (c.m.length : Int) - 1 by omega)]
                  rw [hd, putT T hs ⟨c.e + 1, delAt c.m k (k + 1), !decide (k + 1 = c.m.length)⟩]
                | false =>
                  rw [cond_false, cond_true, Bool.false_and, putT T hs ⟨c.e + 1, delAt c.m k (k + 1), false⟩]
          · rw [if_neg h3, eq_false h3, cond_false]
            by_cases h5 : kd = 2
            · rw [if_pos h5, eq_true h5, cond_true]
              by_cases h6 : ¬ (0 ≤ nd ∧ nd < 100)
              · rw [if_pos h6]
                by_cases q : nd < 0
                · rw [lt_true q]; rfl
                · rw [lt_false q, cond_false, lt_true (show 99 < nd by omega)]; rfl
              · rw [if_neg h6, lt_false (show ¬ nd < 0 by omega), cond_false, lt_false (show ¬ 99 < nd by omega), cond_false]
                by_cases h7 : nd ∈ vals c.m
                · rw [if_pos h7]
                  rcases atI_cases (vals c.m) nd with ⟨_, _, q⟩ | ⟨k, q, _⟩
                  · exact absurd h7 q
                  · rw [q, le_true (show (0 : Int) ≤ (k : Int) by omega)]; rfl
                · rw [if_neg h7]
                  have ha : atI (vals c.m) nd = -1 := by unfold atI; rw [ix_none.2 h7]
                  rw [ha, le_false (show ¬ (0 : Int) ≤ -1 by omega), cond_false]
                  by_cases h8 : c.j = true ∨ 7 ≤ c.m.length
                  · rw [if_pos h8]
                    cases hj : c.j with
                    | true => rfl
                    | false =>
                      rw [hj] at h8
                      rw [cond_false, lt_true (show (6 : Int) < ofN c.m.length by unfold ofN; simp at h8; omega)]; rfl
                  · rw [if_neg h8]
                    have hj : c.j = false := by cases hj : c.j with | false => rfl | true => exact absurd (.inl hj) h8
                    rw [hj, cond_false, lt_false (show ¬ (6 : Int) < ofN c.m.length by unfold ofN; omega), cond_false, fits_of (show 0 + c.m.length ≤ 1000000 by omega) (by omega), cond_true, fits_of (show c.m.length + 1 ≤ 1000000 by omega) (by omega), cond_true, cond_true, putT T hs ⟨c.e + 1, c.m ++ [[D.int nd]], true⟩]
            · rw [if_neg h5, eq_false h5, cond_false]
              by_cases h6 : ¬ (c.j = true ∧ atI (vals c.m) nd = c.m.length - 1)
              · rw [if_pos h6]
                cases hj : c.j with
                | false => rfl
                | true =>
                  rw [hj] at h6
                  rw [Bool.not_true, cond_false, eq_false (fun e => h6 ⟨rfl, e⟩)]; rfl
              · rw [if_neg h6]
                have h6' : c.j = true ∧ atI (vals c.m) nd = c.m.length - 1 := Decidable.of_not_not h6
                rw [h6'.1, Bool.not_true, cond_false, eq_true h6'.2, Bool.not_true, cond_false, cond_true, putT T hs ⟨c.e, c.m, false⟩]
        · rw [if_neg he, eq_false he]; rfl
end Go.Proofs.YtlakjegifgonbaaDoor.V

/- master: MasterDoes' plain law. -/
namespace Go.Proofs.YtlakjegifgonbaaDoor.V
variable {R : Type} {es : List (D × List D)} {T : Tb}

def cntT (T : Tb) (k : Nat) : Nat := ((List.range k).filter fun q => (T q).isSome).length
theorem cntT_succ (T : Tb) (k : Nat) : cntT T (k + 1) = cntT T k + (if (T k).isSome then 1 else 0) := by
  unfold cntT
  rw [List.range_succ, List.filter_append, List.length_append]
  cases h : (T k).isSome <;> simp [h]
theorem cntT_le (T : Tb) : ∀ k, cntT T k ≤ k
  | 0 => by simp [cntT]
  | k + 1 => by rw [cntT_succ]; have := cntT_le T k; split <;> omega

set_option maxHeartbeats 1000000 in
theorem loop15 {fu : Nat} (hf : 1100 ≤ fu) (h : Rep es T) {i : Nat} (g : Good T i) (k0 k1 : Int → Option R) : ∀ (d k n : Nat), d < n → k + d = 10 →
    F15_58 fu (e_ T 0) (m_ T 0) (j_ T 0) (e_ T 1) (m_ T 1) (j_ T 1) (e_ T 2) (m_ T 2) (j_ T 2) (e_ T 3) (m_ T 3) (j_ T 3) (e_ T 4) (m_ T 4) (j_ T 4) (e_ T 5) (m_ T 5) (j_ T 5) (e_ T 6) (m_ T 6) (j_ T 6) (e_ T 7) (m_ T 7) (j_ T 7) (e_ T 8) (m_ T 8) (j_ T 8) (e_ T 9) (m_ T 9) (j_ T 9) es n (cntT T k : Nat) (k : Int) k0 k1 = k1 (cntT T 10 : Nat)
  | 0, k, n + 1, _, e => by
    have : k = 10 := by omega
    subst this
    rw [F15_58, lt_false (show ¬ ((10 : Nat) : Int) < 10 by omega)]; rfl
  | d + 1, k, n + 1, hn, e => by
    have next := loop15 hf h g k0 k1 d (k + 1) n (by omega) (by omega)
    have hk : k < 10 := by omega
    have hcl := cntT_le T k
    have hml : (m_ T k).length ≤ 1000 := by
      unfold m_
      cases hT : T k with
      | none => show 0 ≤ 1000; omega
      | some c => have := (g.ok k c hT).l1; show c.m.length ≤ 1000; omega
    rw [F15_58, lt_true (show (k : Int) < 10 by omega), cond_true, show within (k : Int) 10 = true from within_of hk, cond_true, F16_T h g, Int.toNat_natCast, elemT T hk, cfg0, cfg1, cfg2, e_pos g k, beq_self_eq_true, Bool.not_true, cond_false, F17_ok hf hml, decide_eq_true rfl, beq_self_eq_true, decide_eq_true rfl, wrap_succ (show k ≤ 9223372036854775806 by omega), wrap_succ (show cntT T k ≤ 9223372036854775806 by omega)]
    show (bif !true then k0 _ else _) = _
    rw [Bool.not_true, cond_false]
    rw [cntT_succ] at next
    cases hb : (T k).isSome with
    | true => rw [hb] at next; rw [cond_true]; exact next
    | false => rw [hb] at next; rw [cond_false]; exact next

theorem F15_ok {fu : Nat} (hf : 1100 ≤ fu) (h : Rep es T) {i : Nat} (g : Good T i) (hi : i ≤ 98) (k0 : Bool → Option R) : F15 fu (tD T) es k0 = k0 true := by
  rw [F15_eq, Fb15]
  refine (loop15 hf h g _ _ 10 0 fu (by omega) rfl).trans ?_
  show (F16 fu ((10 : Nat) : Int) es fun o_2 o_3 => bif !o_3 then bif keysOKI es then bif decide (ofN (keysD es).length = ((cntT T 10 : Nat) : Int)) then bif textOK es then F29 fu (tD T) fun o_4 => (k0 (strEq (textD es) o_4)) else none else (k0 false) else none else (k0 false)) = _
  have h10 : T 10 = none := by
    cases hT : T 10 with
    | none => rfl
    | some c => have := g.lt 10 c hT; omega
  have hc : decide (ofN (keysD es).length = ((cntT T 10 : Nat) : Int)) = true := by
    refine decide_eq_true ?_
    rw [h.keysD g, List.length_map]; rfl
  rw [F16_T h g, h10]
  show (bif !false then _ else _) = _
  rw [Bool.not_false, cond_true, h.keysOK g, cond_true, hc, cond_true, h.textOK g hi, cond_true, F29_ok hf g hi, h.text g, strEq_refl]

theorem F13_ok (fu : Nat) (o : List D) (k0 : List D → Option R) : F13 fu o k0 = k0 o := by rw [F13_eq, Fb13]

set_option maxHeartbeats 2000000 in
theorem loop3 {fu : Nat} (hf : 1100 ≤ fu) (l : List (List D)) (hl : l.length ≤ 60) (hb : ∀ x ∈ l, (cell 4 x).toRows.length ≤ 20) (k0 k1 : Option R) : ∀ (r p : List (List D)) (n : Nat) (es : List (D × List D)) (T : Tb), r.length < n → l = p ++ r → Rep es T → Good T p.length →
    F3_506 fu l (ofN l.length) n (p.length : Nat) (e_ T 0) (m_ T 0) (j_ T 0) (e_ T 1) (m_ T 1) (j_ T 1) (e_ T 2) (m_ T 2) (j_ T 2) (e_ T 3) (m_ T 3) (j_ T 3) (e_ T 4) (m_ T 4) (j_ T 4) (e_ T 5) (m_ T 5) (j_ T 5) (e_ T 6) (m_ T 6) (j_ T 6) (e_ T 7) (m_ T 7) (j_ T 7) (e_ T 8) (m_ T 8) (j_ T 8) (e_ T 9) (m_ T 9) (j_ T 9) es k0 k1 = k1
  | [], p, n + 1, es, T, _, e, h, g => by
    rw [List.append_nil] at e; subst e
    rw [F3_506, natge (Nat.le_refl _)]; rfl
  | x :: r, p, n + 1, es, T, hn, e, h, g => by
    have h1 : p.length < l.length := by rw [e]; simp
    have hx : elem p.length l = x := by rw [e]; exact elem_mid p r x
    have hin : x ∈ l := by rw [e]; simp
    obtain ⟨es1, r1, g1, q1⟩ := F14_at hf h g (by omega) x (hb x hin)
    have next := loop3 hf l hl hb k0 k1 r (p ++ [x]) n es1 (aOrd T x).2 (by simp at hn; omega) (by rw [e]; simp) r1 (by rw [show (p ++ [x]).length = p.length + 1 by simp]; exact g1)
    rw [show (p ++ [x]).length = p.length + 1 by simp] at next
    rw [F3_506, natlt h1, cond_true, within_of h1, cond_true, Int.toNat_natCast, hx, F13_ok]
    refine (F12_ok hf g (by omega) (cell 0 x).toInt (cell 1 x).toInt (cell 2 x).toInt (cell 3 x).toInt (cell 4 x).toRows (by have := hb x hin; omega) _).trans ?_
    refine (q1 R _).trans ?_
    show (bif !decide ((aOrd T x).1 = (aOrd T x).1) then k0 else F15 fu (tD (aOrd T x).2) es1 _) = k1
    rw [eq_true rfl, Bool.not_true, cond_false, F15_ok hf r1 g1 (by omega), Bool.not_true, cond_false, wrap_succ (by omega)]
    exact next

theorem does3 {fu : Nat} (hf : 1100 ≤ fu) (l : List (List D)) : F3 fu l (fun x => some x) = some true := by
  rw [F3_eq, Fb3, F9_ok hf]
  cases hfew : fewB l with
  | false => rw [Bool.not_false, cond_true, F10_ok]
  | true =>
    rw [Bool.not_true, cond_false, F11_ok, F10_ok]
    obtain ⟨hl, hb⟩ := (fewB_iff l).1 hfew
    exact loop3 hf l hl hb _ _ l [] fu [] (fun _ => none) (by omega) rfl Rep.nil Good.nil
end Go.Proofs.YtlakjegifgonbaaDoor.V

namespace Go.Proofs.YtlakjegifgonbaaDoor
open Go

theorem does_said : Rows.MasterDoesSaid := does_join (V.law3 5000 fun _ _ => V.does3 (by omega) _)

theorem does_holds : Rows.MasterDoesCardSaid :=
  Claim7.holds_tied_plain_at .later [] [.data, .data, .data] true (true, "b87f22f0dd4db3f55605e32eef86dd7d0f36a471cf3b4545ddf744cde23c2131") false
    does_said (fun _ h => by cases h) (by kernel_rfl) (fun _ h => by cases h) masterDoes_row_tie rfl ⟨rfl, rfl⟩ (by kernel_rfl) rfl
    (fun f fn hf hfn => by
      obtain rfl : f = 3 := Option.some.inj ((show Tryd.prog.funcNamed "daisychain/daisychainlaw13.MasterDoes" = some 3 by kernel_rfl).symm.trans hf) |>.symm
      obtain rfl : fn = Tryd.f3 := (Option.some.inj (Tryd.func3.symm.trans hfn)).symm
      exact ⟨by kernel_rfl, fun j t ht => by
        rw [Tryd.params3] at ht
        match j, ht with
        | 0, ht =>
          obtain rfl : 22 = t := Option.some.inj ht
          exact (show Tryd.prog.wantsStandIn 22 = false by kernel_rfl)
        | j + 1, ht => simp at ht⟩)
    (by kernel_rfl)

end Go.Proofs.YtlakjegifgonbaaDoor

