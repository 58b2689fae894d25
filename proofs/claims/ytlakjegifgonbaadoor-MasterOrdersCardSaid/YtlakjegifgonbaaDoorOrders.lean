/- WHAT IS PROVED: the call of MasterOrders answers true, and leaves its arguments as they were, at every input that the given row takes; the card ties the row's package variables to the program's text. No condition of its own. -/
import Derived.Test.YtlakjegifgonbaaDoorMid1
import Derived.Test.YtlakjegifgonbaaDoorRows
import Derived.Test.YtlakjegifgonbaaDoorChecked
import Derived.ProofKit
import Derived.Test.YtlakjegifgonbaaDoorTie
import Derived.Test.YtlakjegifgonbaaDoorCards
import Derived.SevenTiedAt
set_option linter.unusedVariables false
set_option linter.unusedSimpArgs false

/- Where V's law of function 5 stands, the given row stands. -/
namespace Go.Proofs.YtlakjegifgonbaaDoor
open Go.ChangeShapes Go.WideShapes Go.ChangeAt Go.RowKit

set_option maxRecDepth 100000 in
theorem orders_lifted (law : V.Law Tryd.prog 5 Tryd.f5.params.toList) (os : Os) (started : os.Started) (H : Type) (enc : TypeId × Value → H) :
    ReturnsInHanded {} Tryd.checked os 5 .any (fun w args => (Rows.masterOrdersSpec.pre enc Tryd.prog Tryd.f5 Rows.masterOrdersRow.domain false w args ∧ laidMetH Tryd.prog Rows.masterOrdersRow.laid w) ∧ sizedMet enc Tryd.prog Tryd.f5 (OpenSpec.ofChange Rows.masterOrdersSpec) false w args) (Rows.masterOrdersSpec.post enc Tryd.prog Tryd.f5 false true false false) := by
  refine V.lift_and (C := Tryd.checked) (X := fun w _ => laidMetH Tryd.prog Rows.masterOrdersRow.laid w) enc Tryd.own started (by kernel_rfl) Tryd.func5
    (ChangeSpec.witness_at (enc := enc) (C := Tryd.checked) (X := fun w _ => laidMetH Tryd.prog Rows.masterOrdersRow.laid w) false (laidWorld os) #[.slice none 0 0, .agg #[.int .i64 0, .int .i64 0, .int .i64 0, .int .i64 0, .slice none 0 0]] 8 rfl (by kernel_rfl) (by kernel_rfl) (by kernel_rfl) (by kernel_rfl) (by kernel_rfl) (laid_met os _)) rfl (fun ds h => ?_) rfl (by kernel_rfl) Tryd.laidOut (by kernel_rfl) law
  have h : ds.length = 2 := h
  match ds, h with
  | [d1, d2], _ => rfl

theorem orders_join (law : V.Law Tryd.prog 5 Tryd.f5.params.toList) : Rows.MasterOrdersSaid :=
  OpenClaim.holds_of_wide 5 Tryd.f5 rfl rfl rfl rfl rfl rfl rfl ⟨rfl, rfl, rfl, rfl, rfl⟩ rfl rfl rfl rfl rfl (by kernel_rfl) Tryd.func5 (by kernel_rfl)
    (of_decide_eq_true (by kernel_rfl)) (by unfold Func.isWrapper; first | (rw [if_pos (by decide +kernel)]; kernel_rfl) | (rw [if_neg (by decide +kernel)]; exact ⟨rfl, rfl⟩))
    (fun os started H enc _ => orders_lifted law os started H enc)

end Go.Proofs.YtlakjegifgonbaaDoor

/- Printed by ugen: daisychain/daisychainlaw13.MasterBeside -/
namespace Go.Proofs.YtlakjegifgonbaaDoor.V
set_option maxRecDepth 100000
set_option maxHeartbeats 4000000


noncomputable def code8 : Code := match Tryd.f8.body with | some c => c | none => .skip
theorem a8_58 : codeAt code8 58 = some (.loop (loopBody (codeAt code8 58))) := by kernel_rfl
noncomputable def F8_58 {R : Type} (fu : Nat) (l : List (List D)) (x : List (List D)) (x1 : Int) : Nat → Int → (Option R) → (Option R) → Option R
  | 0, _, _, _ => none
  | n + 1, x2, k0, k1 => bif decide (x2 < x1) then bif within x2 x.length then bif decide ((cell 0 (elem x2.toNat x)).toInt < 0) then F10 fu ((k0)) else F21 fu l (cell 0 (elem x2.toNat x)).toInt fun o_0 => bif !decide (o_0 = x2) then F10 fu ((k0)) else (F8_58 fu l x x1 n (IntKind.i64.wrap (x2 + 1)) k0 k1) else none else (k1)

noncomputable def t8_58 (fu n : Nat) : ToldP := fun _ e s K => match e, s with
  | [.fz zq0 l false, .int .i64 node, .fz zq1 x false, .int .i64 x1, .int .i64 x2], [] => (match FT.sames zq0 ft0 with | true => (match FT.sames zq1 ft0 with | true => F8_58 fu l x x1 n x2 (K .ret (unpackM (bitsM 5 0x13) [.fz ft0 (l) false, .int .i64 (node), .bool (true)]) []) (K (.exit 0) (unpackM (bitsM 5 0x3) [.fz ft0 (l) false, .int .i64 (node)]) []) | false => none) | false => none)
  | _, _ => none

noncomputable def pc8_58 (fu : Nat) : Nat → Option ToldP := fun _ => none
theorem e8_58 (fu n : Nat) (R : Type) (K : VExit → UEnv → USt → Option R) (l : List (List D)) (node : Int) (x : List (List D)) (x1 : Int) (x2 : Int) :
    F8_58 fu l x x1 (n + 1) x2 (K .ret (unpackM (bitsM 5 0x13) [.fz ft0 (l) false, .int .i64 (node), .bool (true)]) []) (K (.exit 0) (unpackM (bitsM 5 0x3) [.fz ft0 (l) false, .int .i64 (node)]) []) = uexec Tryd.prog (tb10 fu) 300 (pc8_58 fu) 116 (loopBody (codeAt code8 58)) (unpackM (bitsM 18 0x38003) [.fz ft0 l false, .int .i64 node, .fz ft0 x false, .int .i64 x1, .int .i64 x2]) [] (loopK 0 [.live (bitsM 18 0x38003), .fzP 0 [] ft0, .fzP 15 [] ft0, .gc] [.live (bitsM 5 0x13), .gc] (pkP (bitsM 18 0x38003) (t8_58 fu n)) K) := by kernel_rfl

theorem p8_58 (fu : Nat) : SoundPc Tryd.prog 0 code8 (pc8_58 fu) := SoundPc.none _ _ _
theorem s8_58 (fu : Nat) : ∀ n, SoundP Tryd.prog 0 (.loop (loopBody (codeAt code8 58))) (pkP (bitsM 18 0x38003) (t8_58 fu n)) := by
  refine loopP_sound (gin := [.live (bitsM 18 0x38003), .fzP 0 [] ft0, .fzP 15 [] ft0, .gc]) (gout := [.live (bitsM 5 0x13), .gc]) (k := 300) (tb10_sound fu) (p8_58 fu) (by decide) a8_58 (fun R e s K => ?_) (fun n R e s K r h => ?_)
  · unfold t8_58; repeat' split
    all_goals rfl
  · unfold t8_58 at h; split at h
    case h_2 => cases h
    split at h
    case h_2 => cases h
    rename_i hq
    have hq := FT.sames_eq _ _ hq
    subst hq
    split at h
    case h_2 => cases h
    rename_i hq
    have hq := FT.sames_eq _ _ hq
    subst hq
    exact (e8_58 fu n R K _ _ _ _ _).symm.trans h


noncomputable def Fb8 {R : Type} (fu : Nat) (l : List (List D)) (node : Int) (k0 : Bool → Option R) : Option R :=
  bif decide (20 < ofN l.length) then F10 fu ((k0 true)) else F8_58 fu l l (ofN l.length) fu 0 ((k0 true)) (F21 fu l node fun o_0 => bif decide (0 ≤ o_0) then bif decide (IntKind.i64.wrap (o_0 + 1) < ofN l.length) then bif within (IntKind.i64.wrap (o_0 + 1)) l.length then bif decide (0 < o_0) then bif within (IntKind.i64.wrap (o_0 - 1)) l.length then F18 fu [D.int 0, D.row l, D.bool false] node fun o_1 => bif decide (o_1 = o_0) then F22 fu [D.int 0, D.row l, D.bool false] node fun o_2 => bif decide (o_2 = (cell 0 (elem (IntKind.i64.wrap (o_0 + 1)).toNat l)).toInt) then F23 fu [D.int 0, D.row l, D.bool false] node fun o_3 => bif decide (o_3 = (cell 0 (elem (IntKind.i64.wrap (o_0 - 1)).toNat l)).toInt) then F10 fu ((k0 true)) else (k0 false) else (k0 false) else (k0 false) else none else F18 fu [D.int 0, D.row l, D.bool false] node fun o_4 => bif decide (o_4 = o_0) then F22 fu [D.int 0, D.row l, D.bool false] node fun o_5 => bif decide (o_5 = (cell 0 (elem (IntKind.i64.wrap (o_0 + 1)).toNat l)).toInt) then F23 fu [D.int 0, D.row l, D.bool false] node fun o_6 => bif decide (o_6 = -1) then F10 fu ((k0 true)) else (k0 false) else (k0 false) else (k0 false) else none else bif decide (0 < o_0) then bif within (IntKind.i64.wrap (o_0 - 1)) l.length then F18 fu [D.int 0, D.row l, D.bool false] node fun o_7 => bif decide (o_7 = o_0) then F22 fu [D.int 0, D.row l, D.bool false] node fun o_8 => bif decide (o_8 = -1) then F23 fu [D.int 0, D.row l, D.bool false] node fun o_9 => bif decide (o_9 = (cell 0 (elem (IntKind.i64.wrap (o_0 - 1)).toNat l)).toInt) then F10 fu ((k0 true)) else (k0 false) else (k0 false) else (k0 false) else none else F18 fu [D.int 0, D.row l, D.bool false] node fun o_10 => bif decide (o_10 = o_0) then F22 fu [D.int 0, D.row l, D.bool false] node fun o_11 => bif decide (o_11 = -1) then F23 fu [D.int 0, D.row l, D.bool false] node fun o_12 => bif decide (o_12 = -1) then F10 fu ((k0 true)) else (k0 false) else (k0 false) else (k0 false) else bif decide (0 < o_0) then bif within (IntKind.i64.wrap (o_0 - 1)) l.length then F18 fu [D.int 0, D.row l, D.bool false] node fun o_13 => bif decide (o_13 = o_0) then F22 fu [D.int 0, D.row l, D.bool false] node fun o_14 => bif decide (o_14 = -1) then F23 fu [D.int 0, D.row l, D.bool false] node fun o_15 => bif decide (o_15 = (cell 0 (elem (IntKind.i64.wrap (o_0 - 1)).toNat l)).toInt) then F10 fu ((k0 true)) else (k0 false) else (k0 false) else (k0 false) else none else F18 fu [D.int 0, D.row l, D.bool false] node fun o_16 => bif decide (o_16 = o_0) then F22 fu [D.int 0, D.row l, D.bool false] node fun o_17 => bif decide (o_17 = -1) then F23 fu [D.int 0, D.row l, D.bool false] node fun o_18 => bif decide (o_18 = -1) then F10 fu ((k0 true)) else (k0 false) else (k0 false) else (k0 false))

noncomputable def F8 {R : Type} (fu : Nat) (l : List (List D)) (node : Int) (k0 : Bool → Option R) : Option R := shut (@Fb8 R) fu l node k0
theorem F8_eq {R : Type} (fu : Nat) (l : List (List D)) (node : Int) (k0 : Bool → Option R) : F8 fu l node k0 = Fb8 fu l node k0 := by unfold F8; rw [shut_eq]

noncomputable def pc8 (fu : Nat) : Nat → Option ToldP := fun p => match Nat.beq p 58 with | true => some (ghP 0 [.live (bitsM 18 0x38003), .fzP 0 [] ft0, .fzP 15 [] ft0, .gc] (pkP (bitsM 18 0x38003) (t8_58 fu fu))) | false => none
noncomputable def t8 (fu : Nat) : ToldF := fun _ args s K => match args, s with
  | [.fz zq0 l false, .int .i64 node], [] => (match FT.sames zq0 ft0 with | true => F8 fu l node (fun o_ => K (.bool o_) []) | false => none)
  | _, _ => none

theorem e8 (R : Type) (K : UV → USt → Option R) (fu : Nat) (l : List (List D)) (node : Int) :
    F8 fu l node (fun o_ => K (.bool o_) []) = ufun Tryd.prog ⟨(tb10 fu), pc8 fu⟩ 300 8 [.fz ft0 l false, .int .i64 node] [] (funK 0 [.gc] K) := (F8_eq fu _ _ _).trans (by kernel_rfl)

theorem s8 (fu : Nat) : Tells Tryd.prog 8 (t8 fu) := by
  refine ufun_sound (T := ⟨(tb10 fu), pc8 fu⟩) (m := 0) (gout := [.gc]) (k := 300) (tb10_sound fu) (fun fn body hf hb => ?_) (fun R args s K r h => ?_) (fun R args s K r h => ?_)
  · have hc : body = code8 := by
      have h1 : Tryd.prog.funcs[8]? = some Tryd.f8 := rfl
      rw [h1] at hf; cases hf
      have h2 : Tryd.f8.body = some code8 := rfl
      rw [h2] at hb; cases hb; rfl
    subst hc
    exact fun p told h b hb => by
      replace h : pc8 fu p = some told := h
      unfold pc8 at h
      split at h
      · rename_i hp
        cases h
        have := Nat.eq_of_beq_eq_true hp
        subst this
        rw [a8_58] at hb
        cases hb
        exact ghP_sound (s8_58 fu _)
      ·
        cases h

  · unfold t8 at h; split at h
    · rfl
    · cases h
  · unfold t8 at h; split at h
    case h_2 => cases h
    split at h
    case h_2 => cases h
    rename_i hq
    have hq := FT.sames_eq _ _ hq
    subst hq
    exact (e8 R K fu _ _).symm.trans h

noncomputable def tb8 (fu : Nat) : FuncId → Option (Bool × ToldF) := fun f => match Nat.beq f 8 with
  | true => some (false, ghG [.fzP 0 [] ft0] (t8 fu))
  | false => (tb10 fu) f
theorem tb8_sound (fu : Nat) : SoundF' Tryd.prog (tb8 fu) := by
  intro f own told h
  unfold tb8 at h
  split at h
  · rename_i hb
    cases h
    have := Nat.eq_of_beq_eq_true hb
    subst this
    exact ghG_sound (s8 fu)
  · exact (tb10_sound fu) f own told h

end Go.Proofs.YtlakjegifgonbaaDoor.V

/- Printed by ugen: daisychain/daisychainlaw13.MasterFull -/
namespace Go.Proofs.YtlakjegifgonbaaDoor.V
set_option maxRecDepth 100000
set_option maxHeartbeats 4000000


noncomputable def code7 : Code := match Tryd.f7.body with | some c => c | none => .skip

noncomputable def Fb7 {R : Type} (fu : Nat) (first : Int) (next : Int) (full : Bool) (k0 : Bool → Option R) : Option R :=
  F11 fu (bif decide (first < 0) then F10 fu ((k0 true)) else bif decide (99 < first) then F10 fu ((k0 true)) else bif decide (next < 0) then F10 fu ((k0 true)) else bif decide (99 < next) then F10 fu ((k0 true)) else bif decide (first = next) then F10 fu ((k0 true)) else F14 fu [D.int 0, D.int 0, D.int 0, D.int 0, D.row [[D.int first]]] [] fun o_0 o_1 => F14 fu [D.int 2, D.int 0, D.int 1, D.int next, D.row []] o_1 fun o_2 o_3 => bif full then F14 fu [D.int 3, D.int 0, D.int 2, D.int next, D.row []] o_3 fun o_4 o_5 => bif !decide (o_4 = 0) then (k0 false) else F14 fu [D.int 1, D.int 0, D.int 2, D.int first, D.row []] o_5 fun o_6 o_7 => F16 fu 0 o_7 fun o_8 o_9 => bif full then bif decide (o_0 = 0) then bif decide (o_2 = 0) then bif decide (o_6 = 0) then bif decide ((cell 0 o_8).toInt = 3) then bif decide (ofN (cell 1 o_8).toRows.length = 1) then bif within 0 (cell 1 o_8).toRows.length then bif decide ((cell 0 (elem 0 (cell 1 o_8).toRows)).toInt = next) then bif !(cell 2 o_8).toBool then F10 fu ((k0 true)) else (k0 false) else (k0 false) else none else (k0 false) else (k0 false) else (k0 false) else (k0 false) else (k0 false) else bif decide (o_0 = 0) then bif decide (o_2 = 0) then bif decide (o_6 = 9) then bif decide ((cell 0 o_8).toInt = 2) then bif (cell 2 o_8).toBool then F10 fu ((k0 true)) else (k0 false) else (k0 false) else (k0 false) else (k0 false) else (k0 false) else F14 fu [D.int 1, D.int 0, D.int 2, D.int first, D.row []] o_3 fun o_10 o_11 => F16 fu 0 o_11 fun o_12 o_13 => bif full then bif decide (o_0 = 0) then bif decide (o_2 = 0) then bif decide (o_10 = 0) then bif decide ((cell 0 o_12).toInt = 3) then bif decide (ofN (cell 1 o_12).toRows.length = 1) then bif within 0 (cell 1 o_12).toRows.length then bif decide ((cell 0 (elem 0 (cell 1 o_12).toRows)).toInt = next) then bif !(cell 2 o_12).toBool then F10 fu ((k0 true)) else (k0 false) else (k0 false) else none else (k0 false) else (k0 false) else (k0 false) else (k0 false) else (k0 false) else bif decide (o_0 = 0) then bif decide (o_2 = 0) then bif decide (o_10 = 9) then bif decide ((cell 0 o_12).toInt = 2) then bif (cell 2 o_12).toBool then F10 fu ((k0 true)) else (k0 false) else (k0 false) else (k0 false) else (k0 false) else (k0 false))

noncomputable def F7 {R : Type} (fu : Nat) (first : Int) (next : Int) (full : Bool) (k0 : Bool → Option R) : Option R := shut (@Fb7 R) fu first next full k0
theorem F7_eq {R : Type} (fu : Nat) (first : Int) (next : Int) (full : Bool) (k0 : Bool → Option R) : F7 fu first next full k0 = Fb7 fu first next full k0 := by unfold F7; rw [shut_eq]

noncomputable def pc7 (fu : Nat) : Nat → Option ToldP := fun _ => none
noncomputable def t7 (fu : Nat) : ToldF := fun _ args s K => match args, s with
  | [.int .i64 first, .int .i64 next, .bool full], [] => F7 fu first next full (fun o_ => K (.bool o_) [])
  | _, _ => none

theorem e7 (R : Type) (K : UV → USt → Option R) (fu : Nat) (first : Int) (next : Int) (full : Bool) :
    F7 fu first next full (fun o_ => K (.bool o_) []) = ufun Tryd.prog ⟨(tb8 fu), pc7 fu⟩ 300 7 [.int .i64 first, .int .i64 next, .bool full] [] (funK 0 [.gc] K) := (F7_eq fu _ _ _ _).trans (by kernel_rfl)

theorem s7 (fu : Nat) : Tells Tryd.prog 7 (t7 fu) := by
  refine ufun_sound (T := ⟨(tb8 fu), pc7 fu⟩) (m := 0) (gout := [.gc]) (k := 300) (tb8_sound fu) (fun fn body hf hb => ?_) (fun R args s K r h => ?_) (fun R args s K r h => ?_)
  · have hc : body = code7 := by
      have h1 : Tryd.prog.funcs[7]? = some Tryd.f7 := rfl
      rw [h1] at hf; cases hf
      have h2 : Tryd.f7.body = some code7 := rfl
      rw [h2] at hb; cases hb; rfl
    subst hc
    exact SoundPc.none _ _ _
  · unfold t7 at h; split at h
    · rfl
    · cases h
  · unfold t7 at h; split at h
    case h_2 => cases h
    exact (e7 R K fu _ _ _).symm.trans h

noncomputable def tb7 (fu : Nat) : FuncId → Option (Bool × ToldF) := fun f => match Nat.beq f 7 with
  | true => some (false, ghG [] (t7 fu))
  | false => (tb8 fu) f
theorem tb7_sound (fu : Nat) : SoundF' Tryd.prog (tb7 fu) := by
  intro f own told h
  unfold tb7 at h
  split at h
  · rename_i hb
    cases h
    have := Nat.eq_of_beq_eq_true hb
    subst this
    exact ghG_sound (s7 fu)
  · exact (tb8_sound fu) f own told h

end Go.Proofs.YtlakjegifgonbaaDoor.V

/- Printed by ugen: daisychain/daisychainlaw13.MasterOrders -/
namespace Go.Proofs.YtlakjegifgonbaaDoor.V
set_option maxRecDepth 100000
set_option maxHeartbeats 4000000


noncomputable def code5 : Code := match Tryd.f5.body with | some c => c | none => .skip
theorem a5_250 : codeAt code5 250 = some (.loop (loopBody (codeAt code5 250))) := by kernel_rfl
noncomputable def F5_250 {R : Type} (fu : Nat) (x : List (List D)) (x1 : Int) : Nat → Int → (List (D × List D)) → ((List (D × List D)) → Option R) → Option R
  | 0, _, _, _ => none
  | n + 1, x2, y, k0 => bif decide (x2 < x1) then bif within x2 x.length then F14 fu [D.int (cell 0 (elem x2.toNat x)).toInt, D.int (cell 1 (elem x2.toNat x)).toInt, D.int (cell 2 (elem x2.toNat x)).toInt, D.int (cell 3 (elem x2.toNat x)).toInt, D.row (cell 4 (elem x2.toNat x)).toRows] y fun o_0 o_1 => (F5_250 fu x x1 n (IntKind.i64.wrap (x2 + 1)) o_1 k0) else none else (k0 y)

noncomputable def t5_250 (fu n : Nat) : ToldP := fun _ e s K => match e, s with
  | [.ptr 0 0, .ptr 1 0, .fz zq0 x false, .int .i64 x1, .int .i64 x2], [.obj [.int .i64 ob, .int .i64 ob1, .int .i64 ob2, .int .i64 ob3, .fz zq1 ob4 false], .obj [.map 2], .map (.int .i64) true zq2 y] => (match FT.sames zq0 ft1 with | true => (match FT.sames zq1 ft0 with | true => (match FT.sames zq2 ft2 with | true => F5_250 fu x x1 n x2 y (fun o_ => K (.exit 0) (unpackM (bitsM 6 0x28) [.ptr 0 0, .ptr 1 0]) [.obj [.int .i64 (ob), .int .i64 (ob1), .int .i64 (ob2), .int .i64 (ob3), .fz ft0 (ob4) false], .obj [.map 2], .map (.int .i64) true ft2 o_]) | false => none) | false => none) | false => none)
  | _, _ => none

noncomputable def pc5_250 (fu : Nat) : Nat → Option ToldP := fun _ => none
theorem e5_250 (fu n : Nat) (R : Type) (K : VExit → UEnv → USt → Option R) (x : List (List D)) (x1 : Int) (x2 : Int) (ob : Int) (ob1 : Int) (ob2 : Int) (ob3 : Int) (ob4 : List (List D)) (y : List (D × List D)) :
    F5_250 fu x x1 (n + 1) x2 y (fun o_ => K (.exit 0) (unpackM (bitsM 6 0x28) [.ptr 0 0, .ptr 1 0]) [.obj [.int .i64 (ob), .int .i64 (ob1), .int .i64 (ob2), .int .i64 (ob3), .fz ft0 (ob4) false], .obj [.map 2], .map (.int .i64) true ft2 o_]) = uexec Tryd.prog (tb7 fu) 300 (pc5_250 fu) 500 (loopBody (codeAt code5 250)) (unpackM (bitsM 28 0xe000028) [.ptr 0 0, .ptr 1 0, .fz ft1 x false, .int .i64 x1, .int .i64 x2]) [.obj [.int .i64 ob, .int .i64 ob1, .int .i64 ob2, .int .i64 ob3, .fz ft0 ob4 false], .obj [.map 2], .map (.int .i64) true ft2 y] (loopK 0 [.live (bitsM 28 0xe000028), .fzP 25 [] ft1, .gc, .fzC 0 4 ft0, .gc] [.live (bitsM 6 0x38), .gc] (pkP (bitsM 28 0xe000028) (t5_250 fu n)) K) := by kernel_rfl

theorem p5_250 (fu : Nat) : SoundPc Tryd.prog 0 code5 (pc5_250 fu) := SoundPc.none _ _ _
theorem s5_250 (fu : Nat) : ∀ n, SoundP Tryd.prog 0 (.loop (loopBody (codeAt code5 250))) (pkP (bitsM 28 0xe000028) (t5_250 fu n)) := by
  refine loopP_sound (gin := [.live (bitsM 28 0xe000028), .fzP 25 [] ft1, .gc, .fzC 0 4 ft0, .gc]) (gout := [.live (bitsM 6 0x38), .gc]) (k := 300) (tb7_sound fu) (p5_250 fu) (by decide) a5_250 (fun R e s K => ?_) (fun n R e s K r h => ?_)
  · unfold t5_250; repeat' split
    all_goals rfl
  · unfold t5_250 at h; split at h
    case h_2 => cases h
    split at h
    case h_2 => cases h
    rename_i hq
    have hq := FT.sames_eq _ _ hq
    subst hq
    split at h
    case h_2 => cases h
    rename_i hq
    have hq := FT.sames_eq _ _ hq
    subst hq
    split at h
    case h_2 => cases h
    rename_i hq
    have hq := FT.sames_eq _ _ hq
    subst hq
    exact (e5_250 fu n R K _ _ _ _ _ _ _ _ _).symm.trans h


noncomputable def Fb5 {R : Type} (fu : Nat) (l : List (List D)) (o_ : List D) (k0 : Bool → Option R) : Option R :=
  F9 fu l fun o_0 => bif !o_0 then F10 fu ((k0 true)) else F9 fu [[D.int (cell 0 o_).toInt, D.int (cell 1 o_).toInt, D.int (cell 2 o_).toInt, D.int (cell 3 o_).toInt, D.row (cell 4 o_).toRows]] fun o_1 => bif !o_1 then F10 fu ((k0 true)) else F11 fu (F5_250 fu l (ofN l.length) fu 0 [] fun o_2 => F16 fu (cell 1 o_).toInt o_2 fun o_3 o_4 => bif textOK o_2 then F14 fu [D.int (cell 0 o_).toInt, D.int (cell 1 o_).toInt, D.int (cell 2 o_).toInt, D.int (cell 3 o_).toInt, D.row (cell 4 o_).toRows] o_2 fun o_5 o_6 => bif !decide (o_5 = 0) then bif textOK o_6 then bif !strEq (textD o_6) (textD o_2) then (k0 false) else bif decide (1 ≤ (cell 0 o_).toInt) then bif decide ((cell 0 o_).toInt ≤ 3) then bif o_4 then bif !decide ((cell 0 o_3).toInt = (cell 2 o_).toInt) then bif !decide (o_5 = 11) then (k0 false) else F10 fu ((k0 true)) else F10 fu ((k0 true)) else F10 fu ((k0 true)) else F10 fu ((k0 true)) else F10 fu ((k0 true)) else none else bif decide (1 ≤ (cell 0 o_).toInt) then bif decide ((cell 0 o_).toInt ≤ 3) then bif o_4 then bif !decide ((cell 0 o_3).toInt = (cell 2 o_).toInt) then bif !decide (o_5 = 11) then (k0 false) else F10 fu ((k0 true)) else F10 fu ((k0 true)) else F10 fu ((k0 true)) else F10 fu ((k0 true)) else F10 fu ((k0 true)) else none)

noncomputable def F5 {R : Type} (fu : Nat) (l : List (List D)) (o_ : List D) (k0 : Bool → Option R) : Option R := shut (@Fb5 R) fu l o_ k0
theorem F5_eq {R : Type} (fu : Nat) (l : List (List D)) (o_ : List D) (k0 : Bool → Option R) : F5 fu l o_ k0 = Fb5 fu l o_ k0 := by unfold F5; rw [shut_eq]

noncomputable def pc5 (fu : Nat) : Nat → Option ToldP := fun p => match Nat.beq p 250 with | true => some (ghP 0 [.live (bitsM 28 0xe000028), .fzP 25 [] ft1, .gc, .fzC 0 4 ft0, .gc] (pkP (bitsM 28 0xe000028) (t5_250 fu fu))) | false => none
noncomputable def t5 (fu : Nat) : ToldF := fun _ args s K => match args, s with
  | [.fz zq0 l false, .agg [.int .i64 q, .int .i64 q1, .int .i64 q2, .int .i64 q3, .fz zq1 q4 false]], [] => (match FT.sames zq0 ft1 with | true => (match FT.sames zq1 ft0 with | true => F5 fu l [D.int q, D.int q1, D.int q2, D.int q3, D.row q4] (fun o_ => K (.bool o_) []) | false => none) | false => none)
  | _, _ => none

theorem e5 (R : Type) (K : UV → USt → Option R) (fu : Nat) (l : List (List D)) (q : Int) (q1 : Int) (q2 : Int) (q3 : Int) (q4 : List (List D)) :
    F5 fu l [D.int q, D.int q1, D.int q2, D.int q3, D.row q4] (fun o_ => K (.bool o_) []) = ufun Tryd.prog ⟨(tb7 fu), pc5 fu⟩ 300 5 [.fz ft1 l false, .agg [.int .i64 q, .int .i64 q1, .int .i64 q2, .int .i64 q3, .fz ft0 q4 false]] [] (funK 0 [.gc] K) := (F5_eq fu _ _ _).trans (by kernel_rfl)

theorem s5 (fu : Nat) : Tells Tryd.prog 5 (t5 fu) := by
  refine ufun_sound (T := ⟨(tb7 fu), pc5 fu⟩) (m := 0) (gout := [.gc]) (k := 300) (tb7_sound fu) (fun fn body hf hb => ?_) (fun R args s K r h => ?_) (fun R args s K r h => ?_)
  · have hc : body = code5 := by
      have h1 : Tryd.prog.funcs[5]? = some Tryd.f5 := rfl
      rw [h1] at hf; cases hf
      have h2 : Tryd.f5.body = some code5 := rfl
      rw [h2] at hb; cases hb; rfl
    subst hc
    exact fun p told h b hb => by
      replace h : pc5 fu p = some told := h
      unfold pc5 at h
      split at h
      · rename_i hp
        cases h
        have := Nat.eq_of_beq_eq_true hp
        subst this
        rw [a5_250] at hb
        cases hb
        exact ghP_sound (s5_250 fu _)
      ·
        cases h

  · unfold t5 at h; split at h
    · rfl
    · cases h
  · unfold t5 at h; split at h
    case h_2 => cases h
    split at h
    case h_2 => cases h
    rename_i hq
    have hq := FT.sames_eq _ _ hq
    subst hq
    split at h
    case h_2 => cases h
    rename_i hq
    have hq := FT.sames_eq _ _ hq
    subst hq
    exact (e5 R K fu _ _ _ _ _ _).symm.trans h

noncomputable def tb5 (fu : Nat) : FuncId → Option (Bool × ToldF) := fun f => match Nat.beq f 5 with
  | true => some (false, ghG [.fzP 0 [] ft1, .fzP 1 [4] ft0] (t5 fu))
  | false => (tb7 fu) f
theorem tb5_sound (fu : Nat) : SoundF' Tryd.prog (tb5 fu) := by
  intro f own told h
  unfold tb5 at h
  split at h
  · rename_i hb
    cases h
    have := Nat.eq_of_beq_eq_true hb
    subst this
    exact ghG_sound (s5 fu)
  · exact (tb7_sound fu) f own told h

end Go.Proofs.YtlakjegifgonbaaDoor.V

/- From the plain law of function 5 to V's. -/
namespace Go.Proofs.YtlakjegifgonbaaDoor.V

theorem law5 (fu : Nat) (H : ∀ (ds1 ds2 : List D), WFDs [FT.row 56 [FT.int IntKind.i64, FT.int IntKind.i64, FT.int IntKind.i64, FT.int IntKind.i64, FT.row 8 [FT.int IntKind.i64]]] ds1 → WFDs [FT.int IntKind.i64, FT.int IntKind.i64, FT.int IntKind.i64, FT.int IntKind.i64, FT.row 8 [FT.int IntKind.i64]] ds2 → F5 fu ((cell 0 ds1).toRows) [D.int (cell 0 ds2).toInt, D.int (cell 1 ds2).toInt, D.int (cell 2 ds2).toInt, D.int (cell 3 ds2).toInt, D.row (cell 4 ds2).toRows] (fun o => some o) = some true) : Law Tryd.prog 5 Tryd.f5.params.toList := by
  refine law_of_told (by kernel_rfl) (by kernel_rfl) seatX_sound (s5 fu) (fun dss hw => ?_)
  have hts : Tryd.f5.params.toList = [22, 34] := rfl
  rw [hts] at hw
  cases hw with
  | cons t1 ts1 fts1 ds1 dss1 hf1 hd1 hr1 =>
    have e1 : flat Tryd.prog 20 22 = some [FT.row 56 [FT.int IntKind.i64, FT.int IntKind.i64, FT.int IntKind.i64, FT.int IntKind.i64, FT.row 8 [FT.int IntKind.i64]]] := by kernel_rfl
    rw [e1] at hf1; cases hf1
    cases hr1 with
    | cons t2 ts2 fts2 ds2 dss2 hf2 hd2 hr2 =>
      have e2 : flat Tryd.prog 20 34 = some [FT.int IntKind.i64, FT.int IntKind.i64, FT.int IntKind.i64, FT.int IntKind.i64, FT.row 8 [FT.int IntKind.i64]] := by kernel_rfl
      rw [e2] at hf2; cases hf2
      cases hr2
      have h1 : t5 fu Bool (argsU Tryd.prog Tryd.f5.params.toList [ds1, ds2]) [] boolK = F5 fu ((cell 0 ds1).toRows) [D.int (cell 0 ds2).toInt, D.int (cell 1 ds2).toInt, D.int (cell 2 ds2).toInt, D.int (cell 3 ds2).toInt, D.row (cell 4 ds2).toRows] (fun o => some o) := by kernel_rfl
      exact h1.trans (H ds1 ds2 hd1 hd2)
end Go.Proofs.YtlakjegifgonbaaDoor.V

/- master: a table's keys and its text: plain laws. -/
namespace Go.Proofs.YtlakjegifgonbaaDoor.V
variable {R : Type} {es : List (D × List D)} {T : Tb}

/-- The shards that have a configuration. -/
def ks (T : Tb) : List Nat := (List.range 10).filter fun k => (T k).isSome

theorem mem_ks {T : Tb} {k : Nat} : k ∈ ks T ↔ k < 10 ∧ ∃ c, T k = some c := by
  unfold ks
  rw [List.mem_filter, List.mem_range, Option.isSome_iff_exists]

theorem ks_len (T : Tb) : (ks T).length ≤ 10 := by
  unfold ks
  have := List.length_filter_le (fun k => (T k).isSome) (List.range 10)
  rwa [List.length_range] at this

theorem ks_nd (T : Tb) : (ks T).Nodup := (List.filter_sublist (p := fun k => (T k).isSome)).nodup List.nodup_range

theorem Rep.perm (h : Rep es T) {i : Nat} (g : Good T i) : (es.map (·.1)).Perm ((ks T).map fun k : Nat => D.int (k : Int)) := by
  refine (List.perm_ext_iff_of_nodup h.nd ?_).2 fun d => ?_
  · exact (ks_nd T).map _ (fun a b hab e => hab (by injection e with e; omega))
  · constructor
    · intro hd
      obtain ⟨p, hp, rfl⟩ := List.mem_map.1 hd
      obtain ⟨k, c, hk, rfl⟩ := (h.mem p).1 hp
      exact List.mem_map.2 ⟨k, mem_ks.2 ⟨g.lt k c hk, c, hk⟩, rfl⟩
    · intro hd
      obtain ⟨k, hk, rfl⟩ := List.mem_map.1 hd
      obtain ⟨_, c, hc⟩ := mem_ks.1 hk
      exact List.mem_map.2 ⟨_, (h.mem _).2 ⟨k, c, hc, rfl⟩, rfl⟩

theorem Rep.len (h : Rep es T) {i : Nat} (g : Good T i) : es.length = (ks T).length := by
  have := (h.perm g).length_eq
  simpa using this

def leZ (a b : Int) : Bool := decide (a ≤ b)

theorem ks_sorted (T : Tb) : ((ks T).map fun k : Nat => (k : Int)).Pairwise (fun a b => leZ a b = true) := by
  refine List.pairwise_map.2 ?_
  have : (List.range 10).Pairwise (fun a b : Nat => leZ (a : Int) (b : Int) = true) := List.pairwise_lt_range.imp (fun {a b} h => by unfold leZ; exact decide_eq_true (by omega))
  exact this.sublist (List.filter_sublist)

theorem Rep.sorted (h : Rep es T) {i : Nat} (g : Good T i) : sortK keyLeD (es.map (·.1)) = (ks T).map fun k : Nat => D.int (k : Int) := by
  obtain ⟨ns, hns⟩ : ∃ ns : List Int, es.map (·.1) = ns.map D.int := by
    have hk := h.keys
    clear h g
    induction es with
    | nil => exact ⟨[], rfl⟩
    | cons p r ih =>
      obtain ⟨n, hn⟩ := hk p List.mem_cons_self
      obtain ⟨ns, h2⟩ := ih (fun q hq => hk q (List.mem_cons_of_mem _ hq))
      exact ⟨n :: ns, by rw [List.map_cons, List.map_cons, hn, h2]⟩
  have hp := h.perm g
  rw [hns] at hp ⊢
  rw [sortK_map D.int leZ keyLeD (fun a b => rfl)]
  have hpi : ns.Perm ((ks T).map fun k : Nat => (k : Int)) := by
    have := hp.map D.toInt
    rw [List.map_map, List.map_map] at this
    simpa [Function.comp_def, D.toInt] using this
  have tr : ∀ a b c : Int, leZ a b = true → leZ b c = true → leZ a c = true := fun a b c h1 h2 => by simp only [leZ, decide_eq_true_eq] at *; omega
  have to2 : ∀ a b : Int, leZ a b = false → leZ b a = true := fun a b h => by simp only [leZ, decide_eq_true_eq, decide_eq_false_iff_not] at *; omega
  have : sortK leZ ns = (ks T).map fun k : Nat => (k : Int) := by
    refine List.Perm.eq_of_pairwise (le := fun a b => leZ a b = true) (fun a b _ _ h1 h2 => ?_) (pair_sortK leZ tr to2 ns) (ks_sorted T) ((perm_sortK leZ ns).trans hpi)
    simp only [leZ, decide_eq_true_eq] at h1 h2; omega
  rw [this, List.map_map]; rfl

/-- A table's text. -/
def lineT (T : Tb) (k : Nat) : List UInt8 := match T k with | some c => lineD (.int (k : Int)) c.d | none => []
def textL (T : Tb) : List UInt8 := ((List.range 10).map (lineT T)).flatten
def textT (T : Tb) : ByteArray := ⟨(textL T).toArray⟩

theorem linesD_eq (h : Rep es T) : ∀ l : List Nat, (∀ k ∈ l, ∃ c, T k = some c) → linesD es (l.map fun k : Nat => D.int (k : Int)) = (l.map (lineT T)).flatten
  | [], _ => rfl
  | k :: l, hl => by
    obtain ⟨c, hc⟩ := hl k List.mem_cons_self
    rw [List.map_cons, linesD, linesD_eq h l (fun q hq => hl q (List.mem_cons_of_mem _ hq)), List.map_cons, List.flatten_cons, (h.get hc []).1]
    unfold lineT
    rw [hc]

theorem filter_flat (f : Nat → List UInt8) (p : Nat → Bool) (hp : ∀ k, p k = false → f k = []) : ∀ l : List Nat, ((l.filter p).map f).flatten = (l.map f).flatten
  | [] => rfl
  | k :: l => by
    cases hk : p k with
    | true => rw [List.filter_cons_of_pos hk, List.map_cons, List.map_cons, List.flatten_cons, List.flatten_cons, filter_flat f p hp l]
    | false => rw [List.filter_cons_of_neg (by simp [hk]), List.map_cons, List.flatten_cons, hp k hk, List.nil_append, filter_flat f p hp l]

theorem Rep.text (h : Rep es T) {i : Nat} (g : Good T i) : textD es = textT T := by
  unfold textD textT textL
  rw [h.sorted g, linesD_eq h (ks T) (fun k hk => (mem_ks.1 hk).2)]
  unfold ks
  rw [filter_flat]
  intro k hk
  unfold lineT
  cases hT : T k with
  | none => rfl
  | some c => rw [hT] at hk; cases hk

theorem smallN_of {n : Int} (h0 : 0 ≤ n) (h1 : n < 100) : smallN n = true := decide_eq_true ⟨h0, h1⟩

theorem smallRows_of {c : Cf} {i : Nat} (h : CfOK c i) : smallRows c.m = true := by
  unfold smallRows
  have h0 := h.l0; have h1 := h.l1
  rw [decide_eq_true ⟨h0, by omega⟩, Bool.true_and, List.all_eq_true]
  intro r hr
  have := h.m.2 (cell 0 r).toInt (List.mem_map.2 ⟨r, hr, rfl⟩)
  exact smallN_of this.1 this.2

theorem Rep.textOK (h : Rep es T) {i : Nat} (g : Good T i) (hi : i ≤ 98) : textOK es = true := by
  unfold V.textOK
  have hl := ks_len T
  rw [← h.len g] at hl
  rw [decide_eq_true (show es.length ≤ 100 by omega), Bool.true_and, List.all_eq_true]
  intro p hp
  obtain ⟨k, c, hk, rfl⟩ := (h.mem p).1 hp
  have hlt := g.lt k c hk
  have hc := g.ok k c hk
  have e0 := hc.e0; have e1 := hc.e1
  show (smallN (k : Int) && smallN (cell 0 c.d).toInt && smallRows (cell 1 c.d).toRows) = true
  rw [cd0, cd1, smallN_of (by omega) (by omega), smallN_of (by omega) (by omega), smallRows_of hc]; rfl

theorem Rep.keysOK (h : Rep es T) {i : Nat} (g : Good T i) : keysOKI es = true := by
  unfold keysOKI
  have hl := ks_len T
  rw [← h.len g] at hl
  have : ∀ {l : List (D × List D)}, (∀ p ∈ l, intKeyD p.1 = true) → allKeys intKeyD l = true := by
    intro l
    induction l with
    | nil => intro _; rfl
    | cons p r ih =>
      intro hp
      simp only [allKeys, hp p List.mem_cons_self, ih (fun q hq => hp q (List.mem_cons_of_mem _ hq)), Bool.and_self]
  rw [this (fun p hp => by
    obtain ⟨k, c, hk, rfl⟩ := (h.mem p).1 hp
    have hlt := g.lt k c hk
    show decide _ = true
    exact decide_eq_true ⟨by omega, by omega⟩), Bool.true_and]
  unfold maxBytes
  exact decide_eq_true (by omega)

theorem Rep.keysD (h : Rep es T) {i : Nat} (g : Good T i) : keysD es = (ks T).map fun k : Nat => [D.int (k : Int)] := by
  unfold V.keysD
  rw [h.sorted g, List.map_map]; rfl

/-- Where an order is refused, nothing changes. -/
theorem aDo_same (kd sh ep nd : Int) (mb : List (List D)) (h : (aDo T kd sh ep nd mb).1 ≠ 0) : (aDo T kd sh ep nd mb).2 = T := by
  unfold aDo aOne at h ⊢
  repeat' (first | split at h | split)
  all_goals first | rfl | (exact absurd rfl h) | skip
end Go.Proofs.YtlakjegifgonbaaDoor.V

/- master: MasterOrders' plain law. -/
namespace Go.Proofs.YtlakjegifgonbaaDoor.V
variable {R : Type}

/-- An order, as data. -/
abbrev ordOf (x : List D) : List D := [D.int (cell 0 x).toInt, D.int (cell 1 x).toInt, D.int (cell 2 x).toInt, D.int (cell 3 x).toInt, D.row (cell 4 x).toRows]
def aOrd (T : Tb) (x : List D) : Int × Tb := aDo T (cell 0 x).toInt (cell 1 x).toInt (cell 2 x).toInt (cell 3 x).toInt (cell 4 x).toRows

theorem F14_at {fu : Nat} (hf : 1100 ≤ fu) {es : List (D × List D)} {T : Tb} (h : Rep es T) {i : Nat} (g : Good T i) (hi : i ≤ 1000) (x : List D) (hx : (cell 4 x).toRows.length ≤ 20) :
    ∃ es', Rep es' (aOrd T x).2 ∧ Good (aOrd T x).2 (i + 1) ∧ ∀ (R : Type) (k0 : Int → List (D × List D) → Option R), F14 fu (ordOf x) es k0 = k0 (aOrd T x).1 es' := by
  obtain ⟨es', h1, h2⟩ := F14_ok hf h g hi (cell 0 x).toInt (cell 1 x).toInt (cell 2 x).toInt (cell 3 x).toInt (cell 4 x).toRows (by omega)
  exact ⟨es', h1, good_aDo g _ _ _ _ _, h2⟩

theorem F16_any {fu : Nat} {es : List (D × List D)} {T : Tb} (h : Rep es T) {i : Nat} (g : Good T i) (n : Int) :
    ∃ (cd : List D) (b : Bool), (∀ (R : Type) (k0 : List D → Bool → Option R), F16 fu n es k0 = k0 cd b) ∧ ((b = true ∧ ∃ (k : Nat) (c : Cf), n = (k : Int) ∧ T k = some c ∧ cd = c.d) ∨ (b = false ∧ cd = [D.int 0, D.row [], D.bool false] ∧ ∀ k : Nat, n = (k : Int) → T k = none)) := by
  by_cases hn : n < 0
  · exact ⟨_, false, fun R k0 => F16_neg h hn k0, .inr ⟨rfl, rfl, fun k hk => by omega⟩⟩
  · obtain ⟨k, rfl⟩ : ∃ k : Nat, n = (k : Int) := ⟨n.toNat, by omega⟩
    cases hT : T k with
    | some c => exact ⟨c.d, true, fun R k0 => by rw [F16_ok h g k, hT], .inl ⟨rfl, k, c, rfl, hT, rfl⟩⟩
    | none =>
      refine ⟨_, false, fun R k0 => by rw [F16_ok h g k, hT], .inr ⟨rfl, rfl, fun q hq => ?_⟩⟩
      have e : q = k := by omega
      subst e; exact hT

theorem loop5 {fu : Nat} (hf : 1100 ≤ fu) (l : List (List D)) (hl : l.length ≤ 60) (hb : ∀ x ∈ l, (cell 4 x).toRows.length ≤ 20) : ∀ (r p : List (List D)) (n : Nat) (es : List (D × List D)) (T : Tb), r.length < n → l = p ++ r → Rep es T → Good T p.length →
    ∃ es' T', Rep es' T' ∧ Good T' l.length ∧ ∀ (R : Type) (k0 : List (D × List D) → Option R), F5_250 fu l (ofN l.length) n p.length es k0 = k0 es'
  | [], p, n + 1, es, T, _, e, h, g => by
    rw [List.append_nil] at e; subst e
    exact ⟨es, T, h, g, fun R k0 => by rw [F5_250, natge (Nat.le_refl _)]; rfl⟩
  | x :: r, p, n + 1, es, T, hn, e, h, g => by
    have h1 : p.length < l.length := by rw [e]; simp
    have hx : elem p.length l = x := by rw [e]; exact elem_mid p r x
    have hin : x ∈ l := by rw [e]; simp
    obtain ⟨es1, r1, g1, q1⟩ := F14_at hf h g (by omega) x (hb x hin)
    obtain ⟨es2, T2, r2, g2, q2⟩ := loop5 hf l hl hb r (p ++ [x]) n es1 _ (by simp at hn; omega) (by rw [e]; simp) r1 (by rw [show (p ++ [x]).length = p.length + 1 by simp]; exact g1)
    refine ⟨es2, T2, r2, g2, fun R k0 => ?_⟩
    rw [F5_250, natlt h1, cond_true, within_of h1, cond_true, Int.toNat_natCast, hx, q1, wrap_succ (by omega)]
    have := q2 R k0
    rwa [show (p ++ [x]).length = p.length + 1 by simp] at this

theorem fewB_iff (l : List (List D)) : fewB l = true ↔ l.length ≤ 60 ∧ ∀ r ∈ l, (cell 4 r).toRows.length ≤ 20 := by
  unfold fewB; rw [decide_eq_true_eq]

theorem orders5 {fu : Nat} (hf : 1100 ≤ fu) (l : List (List D)) (o : List D) : F5 fu l o (fun x => some x) = some true := by
  rw [F5_eq, Fb5, F9_ok hf]
  cases hfew : fewB l with
  | false => rw [Bool.not_false, cond_true, F10_ok]
  | true =>
    rw [Bool.not_true, cond_false, F9_ok hf]
    cases hfew2 : fewB [ordOf o] with
    | false => rw [Bool.not_false, cond_true, F10_ok]
    | true =>
      rw [Bool.not_true, cond_false, F11_ok]
      obtain ⟨hl, hb⟩ := (fewB_iff l).1 hfew
      have ho : (cell 4 o).toRows.length ≤ 20 := ((fewB_iff _).1 hfew2).2 (ordOf o) List.mem_cons_self
      obtain ⟨es1, T1, r1, g1, q1⟩ := loop5 hf l hl hb l [] fu [] _ (by omega) rfl Rep.nil Good.nil
      have q1' : ∀ (k0 : List (D × List D) → Option Bool), F5_250 fu l (ofN l.length) fu 0 [] k0 = k0 es1 := fun k0 => q1 Bool k0
      rw [q1']
      obtain ⟨cd, is, q2, q3⟩ := F16_any (fu := fu) r1 g1 (cell 1 o).toInt
      rw [q2, r1.textOK g1 (by omega), cond_true]
      obtain ⟨es2, r2, g2, q4⟩ := F14_at hf r1 g1 (by omega) o ho
      rw [q4]
      simp only [F10_ok]
      -- an order for another epoch is refused as such
      have key : 1 ≤ (cell 0 o).toInt → (cell 0 o).toInt ≤ 3 → is = true → ¬ (cell 0 cd).toInt = (cell 2 o).toInt → (aOrd T1 o).1 = 11 := by
        intro k1 k2 k3 k4
        rcases q3 with ⟨_, k, c, e1, e2, e3⟩ | ⟨e, _⟩
        · rw [e3, cd0] at k4
          have hk := g1.lt k c e2
          unfold aOrd aDo
          rw [e1, if_neg (by omega), if_neg (by omega), Int.toNat_natCast, e2]
          simp only [if_neg k4]
        · rw [k3] at e; cases e
      have tail : (bif decide (1 ≤ (cell 0 o).toInt) then bif decide ((cell 0 o).toInt ≤ 3) then bif is then bif !decide ((cell 0 cd).toInt = (cell 2 o).toInt) then bif !decide ((aOrd T1 o).1 = 11) then some false else some true else some true else some true else some true else some true) = some true := by
        by_cases k1 : 1 ≤ (cell 0 o).toInt
        · rw [le_true k1, cond_true]
          by_cases k2 : (cell 0 o).toInt ≤ 3
          · rw [le_true k2, cond_true]
            cases his : is with
            | false => rfl
            | true =>
              rw [cond_true]
              by_cases k4 : (cell 0 cd).toInt = (cell 2 o).toInt
              · rw [eq_true k4]; rfl
              · rw [eq_false k4, Bool.not_false, cond_true, eq_true (key k1 k2 his k4)]; rfl
          · rw [le_false k2]; rfl
        · rw [le_false k1]; rfl
      by_cases h0 : (aOrd T1 o).1 = 0
      · rw [eq_true h0, Bool.not_true, cond_false]
        exact tail
      · rw [eq_false h0, Bool.not_false, cond_true, r2.textOK g2 (by omega), cond_true]
        have hs : (aOrd T1 o).2 = T1 := aDo_same _ _ _ _ _ h0
        have ht : textD es2 = textD es1 := by
          rw [r2.text g2, r1.text g1, hs]
        rw [ht, strEq_refl, Bool.not_true, cond_false]
        exact tail
end Go.Proofs.YtlakjegifgonbaaDoor.V

namespace Go.Proofs.YtlakjegifgonbaaDoor
open Go

theorem orders_said : Rows.MasterOrdersSaid := orders_join (V.law5 5000 fun _ _ _ _ => V.orders5 (by omega) _ _)

theorem orders_holds : Rows.MasterOrdersCardSaid :=
  Claim7.holds_tied_plain_at .later [] [.data, .data, .data] true (true, "b87f22f0dd4db3f55605e32eef86dd7d0f36a471cf3b4545ddf744cde23c2131") false
    orders_said (fun _ h => by cases h) (by kernel_rfl) (fun _ h => by cases h) masterOrders_row_tie rfl ⟨rfl, rfl⟩ (by kernel_rfl) rfl
    (fun f fn hf hfn => by
      obtain rfl : f = 5 := Option.some.inj ((show Tryd.prog.funcNamed "daisychain/daisychainlaw13.MasterOrders" = some 5 by kernel_rfl).symm.trans hf) |>.symm
      obtain rfl : fn = Tryd.f5 := (Option.some.inj (Tryd.func5.symm.trans hfn)).symm
      exact ⟨by kernel_rfl, fun j t ht => by
        rw [Tryd.params5] at ht
        match j, ht with
        | 0, ht =>
          obtain rfl : 22 = t := Option.some.inj ht
          exact (show Tryd.prog.wantsStandIn 22 = false by kernel_rfl)
        | 1, ht =>
          obtain rfl : 34 = t := Option.some.inj ht
          exact (show Tryd.prog.wantsStandIn 34 = false by kernel_rfl)
        | j + 2, ht => simp at ht⟩)
    (by kernel_rfl)

end Go.Proofs.YtlakjegifgonbaaDoor

