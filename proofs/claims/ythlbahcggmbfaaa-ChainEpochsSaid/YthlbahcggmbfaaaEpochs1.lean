import Derived.Test.YthlbahcggmbfaaaBase4
import Derived.Test.YthlbahcggmbfaaaChecked
import Derived.ProofKit
import Derived.KernelRfl
import Derived.Test.YthlbahcggmbfaaaRows
set_option linter.unusedVariables false
set_option linter.unusedSimpArgs false

namespace Go.Proofs.Ythlbahcggmbfaaa
theorem Try.own : ownKnob Try.prog.godebug = none := by kernel_rfl
theorem Try.laidOut : laidOutB Try.prog = true := by kernel_rfl
end Go.Proofs.Ythlbahcggmbfaaa

namespace Go.Proofs.Ythlbahcggmbfaaa
open Go.ChangeShapes Go.WideShapes Go.ChangeAt Go.RowKit
set_option maxRecDepth 100000 in
theorem epochs_lifted (law : V.Law Try.prog 6 Try.f6.params.toList) (os : Os) (started : os.Started) (H : Type) (enc : TypeId × Value -> H) :
  ReturnsInHanded {} Try.checked os 6 .any (Rows.chainEpochsSpec.pre6 enc Try.prog Try.f6 Rows.chainEpochsRow.domain false) (Rows.chainEpochsSpec.post enc Try.prog Try.f6 false true false false) := by
 refine V.lift (C := Try.checked) enc Try.own started (by kernel_rfl) Try.func6
  (ChangeSpec.witness6 (enc := enc) (C := Try.checked) false ⟨#[], #[.int .u8 0, .slice none 0 0], []⟩ 8 (by kernel_rfl) (by kernel_rfl) (by kernel_rfl) (by kernel_rfl)) rfl (fun ds h => ?_) rfl (by kernel_rfl) Try.laidOut (by kernel_rfl) law
 have h : ds.length = 2 := h
 match ds, h with
 | [d1, d2], _ => rfl
theorem epochs_join (law : V.Law Try.prog 6 Try.f6.params.toList) : Rows.ChainEpochsSaid :=
 OpenClaim.holds_of_wide 6 Try.f6 rfl rfl rfl rfl rfl rfl rfl ⟨rfl, rfl, rfl, rfl, rfl⟩ rfl rfl rfl rfl rfl (by kernel_rfl) Try.func6 (by kernel_rfl)
  (of_decide_eq_true (by kernel_rfl)) (by unfold Func.isWrapper; first | (rw [if_pos (by decide +kernel)]; kernel_rfl) | (rw [if_neg (by decide +kernel)]; exact ⟨rfl, rfl⟩))
  (fun os started H enc _ => epochs_lifted law os started H enc)
end Go.Proofs.Ythlbahcggmbfaaa

namespace Go.Proofs.Ythlbahcggmbfaaa.V
set_option maxRecDepth 100000
set_option maxHeartbeats 4000000
abbrev ft0 : List FT := [FT.int IntKind.i64]
theorem s54 (fu : Nat) : Tells Try.prog 54 (toldClone ft0 8) :=
 clone_tells (F := (tbX fu)) (k := 300) (tbX_sound fu) (fun R K => by kernel_rfl) (fun R K es => by kernel_rfl)
noncomputable def tb54 (fu : Nat) : FuncId -> Option (Bool × ToldF) := fun f => match Nat.beq f 54 with
 | true => some (false, ghG [.fzP 0 [] ft0] (toldClone ft0 8))
 | false => (tbX fu) f
theorem tb54_sound (fu : Nat) : SoundF' Try.prog (tb54 fu) := by
 intro f own told h
 unfold tb54 at h
 split at h
 ·rename_i hb
  cases h
  have := Nat.eq_of_beq_eq_true hb
  subst this
  exact ghG_sound (s54 fu)
 ·exact (tbX_sound fu) f own told h
end Go.Proofs.Ythlbahcggmbfaaa.V

namespace Go.Proofs.Ythlbahcggmbfaaa.V
set_option maxRecDepth 100000
set_option maxHeartbeats 4000000
abbrev ft1 : List FT := [FT.str]
theorem s40 (fu : Nat) : Tells Try.prog 40 (toldClone ft1 16) :=
 clone_tells (F := (tb54 fu)) (k := 300) (tb54_sound fu) (fun R K => by kernel_rfl) (fun R K es => by kernel_rfl)
noncomputable def tb40 (fu : Nat) : FuncId -> Option (Bool × ToldF) := fun f => match Nat.beq f 40 with
 | true => some (false, ghG [.fzP 0 [] ft1] (toldClone ft1 16))
 | false => (tb54 fu) f
theorem tb40_sound (fu : Nat) : SoundF' Try.prog (tb40 fu) := by
 intro f own told h
 unfold tb40 at h
 split at h
 ·rename_i hb
  cases h
  have := Nat.eq_of_beq_eq_true hb
  subst this
  exact ghG_sound (s40 fu)
 ·exact (tb54_sound fu) f own told h
end Go.Proofs.Ythlbahcggmbfaaa.V

noncomputable section
namespace Go.Proofs.Ythlbahcggmbfaaa.V
set_option maxRecDepth 100000
set_option maxHeartbeats 4000000
def code42 : Code := match Try.f42.body with | some c => c | none => .skip
theorem a42_26 : codeAt code42 26 = some (.loop (loopBody (codeAt code42 26))) := by kernel_rfl
def F42_26 {R : Type} (fu : Nat) (s : List (List D)) (v x : Int) : Nat -> Int -> (Int -> Option R) -> (Option R) -> Option R
 | 0, _, _, _ => none
 | n + 1, x1, k0, k1 => bif decide (x1 < x) then bif within x1 s.length then bif decide (v = (cell 0 (elem x1.toNat s)).toInt) then (k0 x1) else (F42_26 fu s v x n (IntKind.i64.wrap (x1 + 1)) k0 k1) else none else (k1)
def t42_26 (fu n : Nat) : ToldP := fun _ e s K => match e, s with
 | [.fz zq0 s false, .int .i64 v, .int .i64 x, .int .i64 x1], [] => (match FT.sames zq0 ft0 with | true => F42_26 fu s v x n x1 (fun o_ => K .ret (unpackM (bitsM 5 0x10) [.int .i64 o_]) []) (K (.exit 0) (unpackM (bitsM 5 0x0) []) []) | false => none)
 | _, _ => none
def pc42_26 (fu : Nat) : Nat -> Option ToldP := fun _ => none
theorem e42_26 (fu n : Nat) (R : Type) (K : VExit -> UEnv -> USt -> Option R) (s : List (List D)) (v x x1 : Int) :
  F42_26 fu s v x (n + 1) x1 (fun o_ => K .ret (unpackM (bitsM 5 0x10) [.int .i64 o_]) []) (K (.exit 0) (unpackM (bitsM 5 0x0) []) []) = uexec Try.prog (tb40 fu) 300 (pc42_26 fu) 52 (loopBody (codeAt code42 26)) (unpackM (bitsM 9 0x183) [.fz ft0 s false, .int .i64 v, .int .i64 x, .int .i64 x1]) [] (loopK 0 [.live (bitsM 9 0x183), .fzP 0 [] ft0, .gc] [.live (bitsM 5 0x10), .gc] (pkP (bitsM 9 0x183) (t42_26 fu n)) K) := by kernel_rfl
theorem p42_26 (fu : Nat) : SoundPc Try.prog 0 code42 (pc42_26 fu) := SoundPc.none _ _ _
theorem s42_26 (fu : Nat) : ∀ n, SoundP Try.prog 0 (.loop (loopBody (codeAt code42 26))) (pkP (bitsM 9 0x183) (t42_26 fu n)) := by
 refine loopP_sound (gin := [.live (bitsM 9 0x183), .fzP 0 [] ft0, .gc]) (gout := [.live (bitsM 5 0x10), .gc]) (k := 300) (tb40_sound fu) (p42_26 fu) (by decide) a42_26 (fun R e s K => ?_) (fun n R e s K r h => ?_)
 ·unfold t42_26; repeat' split
  all_goals rfl
 ·unfold t42_26 at h; split at h
  case h_2 => cases h
  split at h
  case h_2 => cases h
  rename_i hq
  have hq := FT.sames_eq _ _ hq
  subst hq
  exact (e42_26 fu n R K _ _ _ _).symm.trans h
def Fb42 {R : Type} (fu : Nat) (s : List (List D)) (v : Int) (k0 : Int -> Option R) : Option R :=
 F42_26 fu s v (ofN s.length) fu 0 (fun o_0 => (k0 o_0)) ((k0 (-1)))
def F42 {R : Type} := shut (@Fb42 R)
theorem F42_eq {R : Type} (fu : Nat) (s : List (List D)) (v : Int) (k0 : Int -> Option R) : F42 fu s v k0 = Fb42 fu s v k0 := by unfold F42; rw [shut_eq]
def pc42 (fu : Nat) : Nat -> Option ToldP := fun p => match Nat.beq p 26 with | true => some (ghP 0 [.live (bitsM 9 0x183), .fzP 0 [] ft0, .gc] (pkP (bitsM 9 0x183) (t42_26 fu fu))) | false => none
def t42 (fu : Nat) : ToldF := fun _ args s K => match args, s with
 | [.fz zq0 s false, .int .i64 v], [] => (match FT.sames zq0 ft0 with | true => F42 fu s v (fun o_ => K (.int .i64 o_) []) | false => none)
 | _, _ => none
theorem e42 (R : Type) (K : UV -> USt -> Option R) (fu : Nat) (s : List (List D)) (v : Int) :
  F42 fu s v (fun o_ => K (.int .i64 o_) []) = ufun Try.prog ⟨(tb40 fu), pc42 fu⟩ 300 42 [.fz ft0 s false, .int .i64 v] [] (funK 0 [.gc] K) := (F42_eq fu _ _ _).trans (by kernel_rfl)
theorem s42 (fu : Nat) : Tells Try.prog 42 (t42 fu) := by
 refine ufun_sound (T := ⟨(tb40 fu), pc42 fu⟩) (m := 0) (gout := [.gc]) (k := 300) (tb40_sound fu) (fun fn body hf hb => ?_) (fun R args s K r h => ?_) (fun R args s K r h => ?_)
 ·have hc : body = code42 := by
   have h1 : Try.prog.funcs[42]? = some Try.f42 := rfl
   rw [h1] at hf; cases hf
   have h2 : Try.f42.body = some code42 := rfl
   rw [h2] at hb; cases hb; rfl
  subst hc
  exact fun p told h b hb => by
   replace h : pc42 fu p = some told := h
   unfold pc42 at h
   split at h
   ·rename_i hp
    cases h
    have := Nat.eq_of_beq_eq_true hp
    subst this
    rw [a42_26] at hb
    cases hb
    exact ghP_sound (s42_26 fu _)
   ·
    cases h

 ·unfold t42 at h; split at h
  ·rfl
  ·cases h
 ·unfold t42 at h; split at h
  case h_2 => cases h
  split at h
  case h_2 => cases h
  rename_i hq
  have hq := FT.sames_eq _ _ hq
  subst hq
  exact (e42 R K fu _ _).symm.trans h
def tb42 (fu : Nat) : FuncId -> Option (Bool × ToldF) := fun f => match Nat.beq f 42 with
 | true => some (false, ghG [.fzP 0 [] ft0] (t42 fu))
 | false => (tb40 fu) f
theorem tb42_sound (fu : Nat) : SoundF' Try.prog (tb42 fu) := by
 intro f own told h
 unfold tb42 at h
 split at h
 ·rename_i hb
  cases h
  have := Nat.eq_of_beq_eq_true hb
  subst this
  exact ghG_sound (s42 fu)
 ·exact (tb40_sound fu) f own told h
def code60 : Code := match Try.f60.body with | some c => c | none => .skip
def Fb60 {R : Type} (fu : Nat) (s : List (List D)) (v : Int) (k0 : Bool -> Option R) : Option R :=
 F42 fu s v fun o_0 => (k0 (decide (0 <= o_0)))
def F60 {R : Type} := shut (@Fb60 R)
theorem F60_eq {R : Type} (fu : Nat) (s : List (List D)) (v : Int) (k0 : Bool -> Option R) : F60 fu s v k0 = Fb60 fu s v k0 := by unfold F60; rw [shut_eq]
def pc60 (fu : Nat) : Nat -> Option ToldP := fun _ => none
def t60 (fu : Nat) : ToldF := fun _ args s K => match args, s with
 | [.fz zq0 s false, .int .i64 v], [] => (match FT.sames zq0 ft0 with | true => F60 fu s v (fun o_ => K (.bool o_) []) | false => none)
 | _, _ => none
theorem e60 (R : Type) (K : UV -> USt -> Option R) (fu : Nat) (s : List (List D)) (v : Int) :
  F60 fu s v (fun o_ => K (.bool o_) []) = ufun Try.prog ⟨(tb42 fu), pc60 fu⟩ 300 60 [.fz ft0 s false, .int .i64 v] [] (funK 0 [.gc] K) := (F60_eq fu _ _ _).trans (by kernel_rfl)
theorem s60 (fu : Nat) : Tells Try.prog 60 (t60 fu) := by
 refine ufun_sound (T := ⟨(tb42 fu), pc60 fu⟩) (m := 0) (gout := [.gc]) (k := 300) (tb42_sound fu) (fun fn body hf hb => ?_) (fun R args s K r h => ?_) (fun R args s K r h => ?_)
 ·have hc : body = code60 := by
   have h1 : Try.prog.funcs[60]? = some Try.f60 := rfl
   rw [h1] at hf; cases hf
   have h2 : Try.f60.body = some code60 := rfl
   rw [h2] at hb; cases hb; rfl
  subst hc
  exact SoundPc.none _ _ _
 ·unfold t60 at h; split at h
  ·rfl
  ·cases h
 ·unfold t60 at h; split at h
  case h_2 => cases h
  split at h
  case h_2 => cases h
  rename_i hq
  have hq := FT.sames_eq _ _ hq
  subst hq
  exact (e60 R K fu _ _).symm.trans h
def tb60 (fu : Nat) : FuncId -> Option (Bool × ToldF) := fun f => match Nat.beq f 60 with
 | true => some (false, ghG [.fzP 0 [] ft0] (t60 fu))
 | false => (tb42 fu) f
theorem tb60_sound (fu : Nat) : SoundF' Try.prog (tb60 fu) := by
 intro f own told h
 unfold tb60 at h
 split at h
 ·rename_i hb
  cases h
  have := Nat.eq_of_beq_eq_true hb
  subst this
  exact ghG_sound (s60 fu)
 ·exact (tb42_sound fu) f own told h
abbrev ft2 : List FT := [FT.int IntKind.i64, FT.row 8 [FT.int IntKind.i64], FT.bool]
def code22 : Code := match Try.f22.body with | some c => c | none => .skip
def Fb22 {R : Type} (fu : Nat) (c : List D) (node : Int) (k0 : Int -> Option R) : Option R :=
 F42 fu (cell 1 c).toRows node fun o_0 => (k0 o_0)
def F22 {R : Type} := shut (@Fb22 R)
theorem F22_eq {R : Type} (fu : Nat) (c : List D) (node : Int) (k0 : Int -> Option R) : F22 fu c node k0 = Fb22 fu c node k0 := by unfold F22; rw [shut_eq]
def pc22 (fu : Nat) : Nat -> Option ToldP := fun _ => none
def t22 (fu : Nat) : ToldF := fun _ args s K => match args, s with
 | [.agg [.int .i64 q, .fz zq0 q1 false, .bool q2], .int .i64 node], [] => (match FT.sames zq0 ft0 with | true => F22 fu [D.int q, D.row q1, D.bool q2] node (fun o_ => K (.int .i64 o_) []) | false => none)
 | _, _ => none
theorem e22 (R : Type) (K : UV -> USt -> Option R) (fu : Nat) (q : Int) (q1 : List (List D)) (q2 : Bool) (node : Int) :
  F22 fu [D.int q, D.row q1, D.bool q2] node (fun o_ => K (.int .i64 o_) []) = ufun Try.prog ⟨(tb60 fu), pc22 fu⟩ 300 22 [.agg [.int .i64 q, .fz ft0 q1 false, .bool q2], .int .i64 node] [] (funK 0 [.gc] K) := (F22_eq fu _ _ _).trans (by kernel_rfl)
theorem s22 (fu : Nat) : Tells Try.prog 22 (t22 fu) := by
 refine ufun_sound (T := ⟨(tb60 fu), pc22 fu⟩) (m := 0) (gout := [.gc]) (k := 300) (tb60_sound fu) (fun fn body hf hb => ?_) (fun R args s K r h => ?_) (fun R args s K r h => ?_)
 ·have hc : body = code22 := by
   have h1 : Try.prog.funcs[22]? = some Try.f22 := rfl
   rw [h1] at hf; cases hf
   have h2 : Try.f22.body = some code22 := rfl
   rw [h2] at hb; cases hb; rfl
  subst hc
  exact SoundPc.none _ _ _
 ·unfold t22 at h; split at h
  ·rfl
  ·cases h
 ·unfold t22 at h; split at h
  case h_2 => cases h
  split at h
  case h_2 => cases h
  rename_i hq
  have hq := FT.sames_eq _ _ hq
  subst hq
  exact (e22 R K fu _ _ _ _).symm.trans h
def tb22 (fu : Nat) : FuncId -> Option (Bool × ToldF) := fun f => match Nat.beq f 22 with
 | true => some (false, ghG [.fzP 0 [1] ft0] (t22 fu))
 | false => (tb60 fu) f
theorem tb22_sound (fu : Nat) : SoundF' Try.prog (tb22 fu) := by
 intro f own told h
 unfold tb22 at h
 split at h
 ·rename_i hb
  cases h
  have := Nat.eq_of_beq_eq_true hb
  subst this
  exact ghG_sound (s22 fu)
 ·exact (tb60_sound fu) f own told h
def code44 : Code := match Try.f44.body with | some c => c | none => .skip
def Fb44 {R : Type} (fu : Nat) (c : List D) (node by_ : Int) (k0 : Int -> Option R) : Option R :=
 F22 fu [D.int (cell 0 c).toInt, D.row (cell 1 c).toRows, D.bool (cell 2 c).toBool] node fun o_0 => bif decide (o_0 < 0) then (k0 (-1)) else bif decide (IntKind.i64.wrap (o_0 + by_) < 0) then (k0 (-1)) else bif decide (ofN (cell 1 c).toRows.length <= IntKind.i64.wrap (o_0 + by_)) then (k0 (-1)) else bif within (IntKind.i64.wrap (o_0 + by_)) (cell 1 c).toRows.length then (k0 ((cell 0 (elem (IntKind.i64.wrap (o_0 + by_)).toNat (cell 1 c).toRows)).toInt)) else none
def F44 {R : Type} := shut (@Fb44 R)
theorem F44_eq {R : Type} (fu : Nat) (c : List D) (node by_ : Int) (k0 : Int -> Option R) : F44 fu c node by_ k0 = Fb44 fu c node by_ k0 := by unfold F44; rw [shut_eq]
def pc44 (fu : Nat) : Nat -> Option ToldP := fun _ => none
def t44 (fu : Nat) : ToldF := fun _ args s K => match args, s with
 | [.agg [.int .i64 q, .fz zq0 q1 false, .bool q2], .int .i64 node, .int .i64 by_], [] => (match FT.sames zq0 ft0 with | true => F44 fu [D.int q, D.row q1, D.bool q2] node by_ (fun o_ => K (.int .i64 o_) []) | false => none)
 | _, _ => none
theorem e44 (R : Type) (K : UV -> USt -> Option R) (fu : Nat) (q : Int) (q1 : List (List D)) (q2 : Bool) (node by_ : Int) :
  F44 fu [D.int q, D.row q1, D.bool q2] node by_ (fun o_ => K (.int .i64 o_) []) = ufun Try.prog ⟨(tb22 fu), pc44 fu⟩ 300 44 [.agg [.int .i64 q, .fz ft0 q1 false, .bool q2], .int .i64 node, .int .i64 by_] [] (funK 0 [.gc] K) := (F44_eq fu _ _ _ _).trans (by kernel_rfl)
theorem s44 (fu : Nat) : Tells Try.prog 44 (t44 fu) := by
 refine ufun_sound (T := ⟨(tb22 fu), pc44 fu⟩) (m := 0) (gout := [.gc]) (k := 300) (tb22_sound fu) (fun fn body hf hb => ?_) (fun R args s K r h => ?_) (fun R args s K r h => ?_)
 ·have hc : body = code44 := by
   have h1 : Try.prog.funcs[44]? = some Try.f44 := rfl
   rw [h1] at hf; cases hf
   have h2 : Try.f44.body = some code44 := rfl
   rw [h2] at hb; cases hb; rfl
  subst hc
  exact SoundPc.none _ _ _
 ·unfold t44 at h; split at h
  ·rfl
  ·cases h
 ·unfold t44 at h; split at h
  case h_2 => cases h
  split at h
  case h_2 => cases h
  rename_i hq
  have hq := FT.sames_eq _ _ hq
  subst hq
  exact (e44 R K fu _ _ _ _ _).symm.trans h
def tb44 (fu : Nat) : FuncId -> Option (Bool × ToldF) := fun f => match Nat.beq f 44 with
 | true => some (false, ghG [.fzP 0 [1] ft0] (t44 fu))
 | false => (tb22 fu) f
theorem tb44_sound (fu : Nat) : SoundF' Try.prog (tb44 fu) := by
 intro f own told h
 unfold tb44 at h
 split at h
 ·rename_i hb
  cases h
  have := Nat.eq_of_beq_eq_true hb
  subst this
  exact ghG_sound (s44 fu)
 ·exact (tb22_sound fu) f own told h
def code25 : Code := match Try.f25.body with | some c => c | none => .skip
def Fb25 {R : Type} (fu : Nat) (c : List D) (node : Int) (k0 : Int -> Option R) : Option R :=
 F44 fu [D.int (cell 0 c).toInt, D.row (cell 1 c).toRows, D.bool (cell 2 c).toBool] node (-1) fun o_0 => (k0 o_0)
def F25 {R : Type} := shut (@Fb25 R)
theorem F25_eq {R : Type} (fu : Nat) (c : List D) (node : Int) (k0 : Int -> Option R) : F25 fu c node k0 = Fb25 fu c node k0 := by unfold F25; rw [shut_eq]
def pc25 (fu : Nat) : Nat -> Option ToldP := fun _ => none
def t25 (fu : Nat) : ToldF := fun _ args s K => match args, s with
 | [.agg [.int .i64 q, .fz zq0 q1 false, .bool q2], .int .i64 node], [] => (match FT.sames zq0 ft0 with | true => F25 fu [D.int q, D.row q1, D.bool q2] node (fun o_ => K (.int .i64 o_) []) | false => none)
 | _, _ => none
theorem e25 (R : Type) (K : UV -> USt -> Option R) (fu : Nat) (q : Int) (q1 : List (List D)) (q2 : Bool) (node : Int) :
  F25 fu [D.int q, D.row q1, D.bool q2] node (fun o_ => K (.int .i64 o_) []) = ufun Try.prog ⟨(tb44 fu), pc25 fu⟩ 300 25 [.agg [.int .i64 q, .fz ft0 q1 false, .bool q2], .int .i64 node] [] (funK 0 [.gc] K) := (F25_eq fu _ _ _).trans (by kernel_rfl)
theorem s25 (fu : Nat) : Tells Try.prog 25 (t25 fu) := by
 refine ufun_sound (T := ⟨(tb44 fu), pc25 fu⟩) (m := 0) (gout := [.gc]) (k := 300) (tb44_sound fu) (fun fn body hf hb => ?_) (fun R args s K r h => ?_) (fun R args s K r h => ?_)
 ·have hc : body = code25 := by
   have h1 : Try.prog.funcs[25]? = some Try.f25 := rfl
   rw [h1] at hf; cases hf
   have h2 : Try.f25.body = some code25 := rfl
   rw [h2] at hb; cases hb; rfl
  subst hc
  exact SoundPc.none _ _ _
 ·unfold t25 at h; split at h
  ·rfl
  ·cases h
 ·unfold t25 at h; split at h
  case h_2 => cases h
  split at h
  case h_2 => cases h
  rename_i hq
  have hq := FT.sames_eq _ _ hq
  subst hq
  exact (e25 R K fu _ _ _ _).symm.trans h
def tb25 (fu : Nat) : FuncId -> Option (Bool × ToldF) := fun f => match Nat.beq f 25 with
 | true => some (false, ghG [.fzP 0 [1] ft0] (t25 fu))
 | false => (tb44 fu) f
theorem tb25_sound (fu : Nat) : SoundF' Try.prog (tb25 fu) := by
 intro f own told h
 unfold tb25 at h
 split at h
 ·rename_i hb
  cases h
  have := Nat.eq_of_beq_eq_true hb
  subst this
  exact ghG_sound (s25 fu)
 ·exact (tb44_sound fu) f own told h
def code26 : Code := match Try.f26.body with | some c => c | none => .skip
def Fb26 {R : Type} (fu : Nat) (c : List D) (node : Int) (k0 : Int -> Option R) : Option R :=
 F44 fu [D.int (cell 0 c).toInt, D.row (cell 1 c).toRows, D.bool (cell 2 c).toBool] node 1 fun o_0 => (k0 o_0)
def F26 {R : Type} := shut (@Fb26 R)
theorem F26_eq {R : Type} (fu : Nat) (c : List D) (node : Int) (k0 : Int -> Option R) : F26 fu c node k0 = Fb26 fu c node k0 := by unfold F26; rw [shut_eq]
def pc26 (fu : Nat) : Nat -> Option ToldP := fun _ => none
def t26 (fu : Nat) : ToldF := fun _ args s K => match args, s with
 | [.agg [.int .i64 q, .fz zq0 q1 false, .bool q2], .int .i64 node], [] => (match FT.sames zq0 ft0 with | true => F26 fu [D.int q, D.row q1, D.bool q2] node (fun o_ => K (.int .i64 o_) []) | false => none)
 | _, _ => none
theorem e26 (R : Type) (K : UV -> USt -> Option R) (fu : Nat) (q : Int) (q1 : List (List D)) (q2 : Bool) (node : Int) :
  F26 fu [D.int q, D.row q1, D.bool q2] node (fun o_ => K (.int .i64 o_) []) = ufun Try.prog ⟨(tb25 fu), pc26 fu⟩ 300 26 [.agg [.int .i64 q, .fz ft0 q1 false, .bool q2], .int .i64 node] [] (funK 0 [.gc] K) := (F26_eq fu _ _ _).trans (by kernel_rfl)
theorem s26 (fu : Nat) : Tells Try.prog 26 (t26 fu) := by
 refine ufun_sound (T := ⟨(tb25 fu), pc26 fu⟩) (m := 0) (gout := [.gc]) (k := 300) (tb25_sound fu) (fun fn body hf hb => ?_) (fun R args s K r h => ?_) (fun R args s K r h => ?_)
 ·have hc : body = code26 := by
   have h1 : Try.prog.funcs[26]? = some Try.f26 := rfl
   rw [h1] at hf; cases hf
   have h2 : Try.f26.body = some code26 := rfl
   rw [h2] at hb; cases hb; rfl
  subst hc
  exact SoundPc.none _ _ _
 ·unfold t26 at h; split at h
  ·rfl
  ·cases h
 ·unfold t26 at h; split at h
  case h_2 => cases h
  split at h
  case h_2 => cases h
  rename_i hq
  have hq := FT.sames_eq _ _ hq
  subst hq
  exact (e26 R K fu _ _ _ _).symm.trans h
def tb26 (fu : Nat) : FuncId -> Option (Bool × ToldF) := fun f => match Nat.beq f 26 with
 | true => some (false, ghG [.fzP 0 [1] ft0] (t26 fu))
 | false => (tb25 fu) f
theorem tb26_sound (fu : Nat) : SoundF' Try.prog (tb26 fu) := by
 intro f own told h
 unfold tb26 at h
 split at h
 ·rename_i hb
  cases h
  have := Nat.eq_of_beq_eq_true hb
  subst this
  exact ghG_sound (s26 fu)
 ·exact (tb25_sound fu) f own told h
def code59 : Code := match Try.f59.body with | some c => c | none => .skip
def Fb59 {R : Type} (fu : Nat) (n_ : Int) (k0 : Bool -> Option R) : Option R :=
 bif decide (0 <= n_) then (k0 (decide (n_ < 100))) else (k0 false)
def F59 {R : Type} := shut (@Fb59 R)
theorem F59_eq {R : Type} (fu : Nat) (n_ : Int) (k0 : Bool -> Option R) : F59 fu n_ k0 = Fb59 fu n_ k0 := by unfold F59; rw [shut_eq]
def pc59 (fu : Nat) : Nat -> Option ToldP := fun _ => none
def t59 (fu : Nat) : ToldF := fun _ args s K => match args, s with
 | [.int .i64 n_], [] => F59 fu n_ (fun o_ => K (.bool o_) [])
 | _, _ => none
theorem e59 (R : Type) (K : UV -> USt -> Option R) (fu : Nat) (n_ : Int) :
  F59 fu n_ (fun o_ => K (.bool o_) []) = ufun Try.prog ⟨(tb26 fu), pc59 fu⟩ 300 59 [.int .i64 n_] [] (funK 0 [.gc] K) := (F59_eq fu _ _).trans (by kernel_rfl)
theorem s59 (fu : Nat) : Tells Try.prog 59 (t59 fu) := by
 refine ufun_sound (T := ⟨(tb26 fu), pc59 fu⟩) (m := 0) (gout := [.gc]) (k := 300) (tb26_sound fu) (fun fn body hf hb => ?_) (fun R args s K r h => ?_) (fun R args s K r h => ?_)
 ·have hc : body = code59 := by
   have h1 : Try.prog.funcs[59]? = some Try.f59 := rfl
   rw [h1] at hf; cases hf
   have h2 : Try.f59.body = some code59 := rfl
   rw [h2] at hb; cases hb; rfl
  subst hc
  exact SoundPc.none _ _ _
 ·unfold t59 at h; split at h
  ·rfl
  ·cases h
 ·unfold t59 at h; split at h
  case h_2 => cases h
  exact (e59 R K fu _).symm.trans h
def tb59 (fu : Nat) : FuncId -> Option (Bool × ToldF) := fun f => match Nat.beq f 59 with
 | true => some (false, ghG [] (t59 fu))
 | false => (tb26 fu) f
theorem tb59_sound (fu : Nat) : SoundF' Try.prog (tb59 fu) := by
 intro f own told h
 unfold tb59 at h
 split at h
 ·rename_i hb
  cases h
  have := Nat.eq_of_beq_eq_true hb
  subst this
  exact ghG_sound (s59 fu)
 ·exact (tb26_sound fu) f own told h
def code56 : Code := match Try.f56.body with | some c => c | none => .skip
theorem a56_26 : codeAt code56 26 = some (.loop (loopBody (codeAt code56 26))) := by kernel_rfl
def F56_26 {R : Type} (fu : Nat) (l x : List (List D)) (x1 : Int) : Nat -> Int -> (Option R) -> (Option R) -> Option R
 | 0, _, _, _ => none
 | n + 1, x2, k0, k1 => bif decide (x2 < x1) then bif within x2 x.length then F59 fu (cell 0 (elem x2.toNat x)).toInt fun o_0 => bif !o_0 then (k0) else bif decide ((0 : Int) <= 0 /\ 0 <= x2) && upTo x2 l.length then F60 fu (part l 0 x2.toNat) (cell 0 (elem x2.toNat x)).toInt fun o_1 => bif o_1 then (k0) else (F56_26 fu l x x1 n (IntKind.i64.wrap (x2 + 1)) k0 k1) else none else none else (k1)
def t56_26 (fu n : Nat) : ToldP := fun _ e s K => match e, s with
 | [.fz zq0 l false, .fz zq1 x false, .int .i64 x1, .int .i64 x2], [] => (match FT.sames zq0 ft0 with | true => (match FT.sames zq1 ft0 with | true => F56_26 fu l x x1 n x2 (K .ret (unpackM (bitsM 3 0x5) [.fz ft0 (l) false, .bool (false)]) []) (K (.exit 0) (unpackM (bitsM 3 0x1) [.fz ft0 (l) false]) []) | false => none) | false => none)
 | _, _ => none
def pc56_26 (fu : Nat) : Nat -> Option ToldP := fun _ => none
theorem e56_26 (fu n : Nat) (R : Type) (K : VExit -> UEnv -> USt -> Option R) (l x : List (List D)) (x1 x2 : Int) :
  F56_26 fu l x x1 (n + 1) x2 (K .ret (unpackM (bitsM 3 0x5) [.fz ft0 (l) false, .bool (false)]) []) (K (.exit 0) (unpackM (bitsM 3 0x1) [.fz ft0 (l) false]) []) = uexec Try.prog (tb59 fu) 300 (pc56_26 fu) 52 (loopBody (codeAt code56 26)) (unpackM (bitsM 8 0xe1) [.fz ft0 l false, .fz ft0 x false, .int .i64 x1, .int .i64 x2]) [] (loopK 0 [.live (bitsM 8 0xe1), .fzP 0 [] ft0, .fzP 5 [] ft0, .gc] [.live (bitsM 3 0x5), .gc] (pkP (bitsM 8 0xe1) (t56_26 fu n)) K) := by kernel_rfl
theorem p56_26 (fu : Nat) : SoundPc Try.prog 0 code56 (pc56_26 fu) := SoundPc.none _ _ _
theorem s56_26 (fu : Nat) : ∀ n, SoundP Try.prog 0 (.loop (loopBody (codeAt code56 26))) (pkP (bitsM 8 0xe1) (t56_26 fu n)) := by
 refine loopP_sound (gin := [.live (bitsM 8 0xe1), .fzP 0 [] ft0, .fzP 5 [] ft0, .gc]) (gout := [.live (bitsM 3 0x5), .gc]) (k := 300) (tb59_sound fu) (p56_26 fu) (by decide) a56_26 (fun R e s K => ?_) (fun n R e s K r h => ?_)
 ·unfold t56_26; repeat' split
  all_goals rfl
 ·unfold t56_26 at h; split at h
  case h_2 => cases h
  iterate 2 (split at h; (case h_2 => cases h); rename_i hq; have hq := FT.sames_eq _ _ hq; subst hq)
  exact (e56_26 fu n R K _ _ _ _).symm.trans h
def Fb56 {R : Type} (fu : Nat) (l : List (List D)) (k0 : Bool -> Option R) : Option R :=
 F56_26 fu l l (ofN l.length) fu 0 ((k0 false)) (bif decide (1 <= ofN l.length) then (k0 (decide (ofN l.length <= 7))) else (k0 false))
def F56 {R : Type} := shut (@Fb56 R)
theorem F56_eq {R : Type} (fu : Nat) (l : List (List D)) (k0 : Bool -> Option R) : F56 fu l k0 = Fb56 fu l k0 := by unfold F56; rw [shut_eq]
def pc56 (fu : Nat) : Nat -> Option ToldP := fun p => match Nat.beq p 26 with | true => some (ghP 0 [.live (bitsM 8 0xe1), .fzP 0 [] ft0, .fzP 5 [] ft0, .gc] (pkP (bitsM 8 0xe1) (t56_26 fu fu))) | false => none
def t56 (fu : Nat) : ToldF := fun _ args s K => match args, s with
 | [.fz zq0 l false], [] => (match FT.sames zq0 ft0 with | true => F56 fu l (fun o_ => K (.bool o_) []) | false => none)
 | _, _ => none
theorem e56 (R : Type) (K : UV -> USt -> Option R) (fu : Nat) (l : List (List D)) :
  F56 fu l (fun o_ => K (.bool o_) []) = ufun Try.prog ⟨(tb59 fu), pc56 fu⟩ 300 56 [.fz ft0 l false] [] (funK 0 [.gc] K) := (F56_eq fu _ _).trans (by kernel_rfl)
theorem s56 (fu : Nat) : Tells Try.prog 56 (t56 fu) := by
 refine ufun_sound (T := ⟨(tb59 fu), pc56 fu⟩) (m := 0) (gout := [.gc]) (k := 300) (tb59_sound fu) (fun fn body hf hb => ?_) (fun R args s K r h => ?_) (fun R args s K r h => ?_)
 ·have hc : body = code56 := by
   have h1 : Try.prog.funcs[56]? = some Try.f56 := rfl
   rw [h1] at hf; cases hf
   have h2 : Try.f56.body = some code56 := rfl
   rw [h2] at hb; cases hb; rfl
  subst hc
  exact fun p told h b hb => by
   replace h : pc56 fu p = some told := h
   unfold pc56 at h
   split at h
   ·rename_i hp
    cases h
    have := Nat.eq_of_beq_eq_true hp
    subst this
    rw [a56_26] at hb
    cases hb
    exact ghP_sound (s56_26 fu _)
   ·
    cases h

 ·unfold t56 at h; split at h
  ·rfl
  ·cases h
 ·unfold t56 at h; split at h
  case h_2 => cases h
  split at h
  case h_2 => cases h
  rename_i hq
  have hq := FT.sames_eq _ _ hq
  subst hq
  exact (e56 R K fu _).symm.trans h
def tb56 (fu : Nat) : FuncId -> Option (Bool × ToldF) := fun f => match Nat.beq f 56 with
 | true => some (false, ghG [.fzP 0 [] ft0] (t56 fu))
 | false => (tb59 fu) f
theorem tb56_sound (fu : Nat) : SoundF' Try.prog (tb56 fu) := by
 intro f own told h
 unfold tb56 at h
 split at h
 ·rename_i hb
  cases h
  have := Nat.eq_of_beq_eq_true hb
  subst this
  exact ghG_sound (s56 fu)
 ·exact (tb59_sound fu) f own told h
def code41 : Code := match Try.f41.body with | some c => c | none => .skip
def Fb41 {R : Type} (fu : Nat) (c : List D) (k0 : (List D) -> Option R) : Option R :=
 bif fits (cell 1 c).toRows.length 8 then (k0 c) else none
def F41 {R : Type} := shut (@Fb41 R)
theorem F41_eq {R : Type} (fu : Nat) (c : List D) (k0 : (List D) -> Option R) : F41 fu c k0 = Fb41 fu c k0 := by unfold F41; rw [shut_eq]
def pc41 (fu : Nat) : Nat -> Option ToldP := fun _ => none
def t41 (fu : Nat) : ToldF := fun _ args s K => match args, s with
 | [.agg [.int .i64 q, .fz zq0 q1 false, .bool q2]], [] => (match FT.sames zq0 ft0 with | true => F41 fu [D.int q, D.row q1, D.bool q2] (fun o_ => K (.agg (ofDs 0 ft2 o_)) []) | false => none)
 | _, _ => none
theorem e41 (R : Type) (K : UV -> USt -> Option R) (fu : Nat) (q : Int) (q1 : List (List D)) (q2 : Bool) :
  F41 fu [D.int q, D.row q1, D.bool q2] (fun o_ => K (.agg (ofDs 0 ft2 o_)) []) = ufun Try.prog ⟨(tb56 fu), pc41 fu⟩ 300 41 [.agg [.int .i64 q, .fz ft0 q1 false, .bool q2]] [] (funK 0 [.fzP 0 [1] ft0, .gc] K) := (F41_eq fu _ _).trans (by kernel_rfl)
theorem s41 (fu : Nat) : Tells Try.prog 41 (t41 fu) := by
 refine ufun_sound (T := ⟨(tb56 fu), pc41 fu⟩) (m := 0) (gout := [.fzP 0 [1] ft0, .gc]) (k := 300) (tb56_sound fu) (fun fn body hf hb => ?_) (fun R args s K r h => ?_) (fun R args s K r h => ?_)
 ·have hc : body = code41 := by
   have h1 : Try.prog.funcs[41]? = some Try.f41 := rfl
   rw [h1] at hf; cases hf
   have h2 : Try.f41.body = some code41 := rfl
   rw [h2] at hb; cases hb; rfl
  subst hc
  exact SoundPc.none _ _ _
 ·unfold t41 at h; split at h
  ·rfl
  ·cases h
 ·unfold t41 at h; split at h
  case h_2 => cases h
  split at h
  case h_2 => cases h
  rename_i hq
  have hq := FT.sames_eq _ _ hq
  subst hq
  exact (e41 R K fu _ _ _).symm.trans h
def tb41 (fu : Nat) : FuncId -> Option (Bool × ToldF) := fun f => match Nat.beq f 41 with
 | true => some (false, ghG [.fzP 0 [1] ft0] (t41 fu))
 | false => (tb56 fu) f
theorem tb41_sound (fu : Nat) : SoundF' Try.prog (tb41 fu) := by
 intro f own told h
 unfold tb41 at h
 split at h
 ·rename_i hb
  cases h
  have := Nat.eq_of_beq_eq_true hb
  subst this
  exact ghG_sound (s41 fu)
 ·exact (tb56_sound fu) f own told h
def code57 : Code := match Try.f57.body with | some c => c | none => .skip
def Fb57 {R : Type} (fu : Nat) (c : List D) (k0 : (List D) -> Option R) : Option R :=
 bif fits (cell 1 c).toRows.length 8 then (k0 c) else none
def F57 {R : Type} := shut (@Fb57 R)
theorem F57_eq {R : Type} (fu : Nat) (c : List D) (k0 : (List D) -> Option R) : F57 fu c k0 = Fb57 fu c k0 := by unfold F57; rw [shut_eq]
def pc57 (fu : Nat) : Nat -> Option ToldP := fun _ => none
def t57 (fu : Nat) : ToldF := fun _ args s K => match args, s with
 | [.agg [.int .i64 q, .fz zq0 q1 false, .bool q2]], [] => (match FT.sames zq0 ft0 with | true => F57 fu [D.int q, D.row q1, D.bool q2] (fun o_ => K (.agg (ofDs 0 ft2 o_)) []) | false => none)
 | _, _ => none
theorem e57 (R : Type) (K : UV -> USt -> Option R) (fu : Nat) (q : Int) (q1 : List (List D)) (q2 : Bool) :
  F57 fu [D.int q, D.row q1, D.bool q2] (fun o_ => K (.agg (ofDs 0 ft2 o_)) []) = ufun Try.prog ⟨(tb41 fu), pc57 fu⟩ 300 57 [.agg [.int .i64 q, .fz ft0 q1 false, .bool q2]] [] (funK 0 [.fzP 0 [1] ft0, .gc] K) := (F57_eq fu _ _).trans (by kernel_rfl)
theorem s57 (fu : Nat) : Tells Try.prog 57 (t57 fu) := by
 refine ufun_sound (T := ⟨(tb41 fu), pc57 fu⟩) (m := 0) (gout := [.fzP 0 [1] ft0, .gc]) (k := 300) (tb41_sound fu) (fun fn body hf hb => ?_) (fun R args s K r h => ?_) (fun R args s K r h => ?_)
 ·have hc : body = code57 := by
   have h1 : Try.prog.funcs[57]? = some Try.f57 := rfl
   rw [h1] at hf; cases hf
   have h2 : Try.f57.body = some code57 := rfl
   rw [h2] at hb; cases hb; rfl
  subst hc
  exact SoundPc.none _ _ _
 ·unfold t57 at h; split at h
  ·rfl
  ·cases h
 ·unfold t57 at h; split at h
  case h_2 => cases h
  split at h
  case h_2 => cases h
  rename_i hq
  have hq := FT.sames_eq _ _ hq
  subst hq
  exact (e57 R K fu _ _ _).symm.trans h
def tb57 (fu : Nat) : FuncId -> Option (Bool × ToldF) := fun f => match Nat.beq f 57 with
 | true => some (false, ghG [.fzP 0 [1] ft0] (t57 fu))
 | false => (tb41 fu) f
theorem tb57_sound (fu : Nat) : SoundF' Try.prog (tb57 fu) := by
 intro f own told h
 unfold tb57 at h
 split at h
 ·rename_i hb
  cases h
  have := Nat.eq_of_beq_eq_true hb
  subst this
  exact ghG_sound (s57 fu)
 ·exact (tb41_sound fu) f own told h
def code34 : Code := match Try.f34.body with | some c => c | none => .skip
def Fb34 {R : Type} (fu : Nat) (k0 : Option R) : Option R :=
 (k0)
def F34 {R : Type} := shut (@Fb34 R)
theorem F34_eq {R : Type} (fu : Nat) (k0 : Option R) : F34 fu k0 = Fb34 fu k0 := by unfold F34; rw [shut_eq]
def pc34 (fu : Nat) : Nat -> Option ToldP := fun _ => none
def t34 (fu : Nat) : ToldF := fun _ args s K => match args, s with
 | [], [] => F34 fu  (K (.ptr 0 0) [.obj [.map 1], .map (.int .i64) true ft2 ([])])
 | _, _ => none
theorem e34 (R : Type) (K : UV -> USt -> Option R) (fu : Nat) :
  F34 fu  (K (.ptr 0 0) [.obj [.map 1], .map (.int .i64) true ft2 ([])]) = ufun Try.prog ⟨(tb57 fu), pc34 fu⟩ 300 34 [] [] (funK 0 [.gc] K) := (F34_eq fu _).trans (by kernel_rfl)
theorem s34 (fu : Nat) : Tells Try.prog 34 (t34 fu) := by
 refine ufun_sound (T := ⟨(tb57 fu), pc34 fu⟩) (m := 0) (gout := [.gc]) (k := 300) (tb57_sound fu) (fun fn body hf hb => ?_) (fun R args s K r h => ?_) (fun R args s K r h => ?_)
 ·have hc : body = code34 := by
   have h1 : Try.prog.funcs[34]? = some Try.f34 := rfl
   rw [h1] at hf; cases hf
   have h2 : Try.f34.body = some code34 := rfl
   rw [h2] at hb; cases hb; rfl
  subst hc
  exact SoundPc.none _ _ _
 ·unfold t34 at h; split at h
  ·rfl
  ·cases h
 ·unfold t34 at h; split at h
  case h_2 => cases h
  exact (e34 R K fu).symm.trans h
def tb34 (fu : Nat) : FuncId -> Option (Bool × ToldF) := fun f => match Nat.beq f 34 with
 | true => some (false, ghG [] (t34 fu))
 | false => (tb57 fu) f
theorem tb34_sound (fu : Nat) : SoundF' Try.prog (tb34 fu) := by
 intro f own told h
 unfold tb34 at h
 split at h
 ·rename_i hb
  cases h
  have := Nat.eq_of_beq_eq_true hb
  subst this
  exact ghG_sound (s34 fu)
 ·exact (tb57_sound fu) f own told h
def code50 : Code := match Try.f50.body with | some c => c | none => .skip
def Fb50 {R : Type} (fu : Nat) (shard : Int) (t_l : List (D × List D)) (k0 : (List D) -> Bool -> Option R) : Option R :=
 F57 fu [D.int (cell 0 (mget t_l (D.int shard) [D.int 0, D.nil, D.bool false])).toInt, D.row (cell 1 (mget t_l (D.int shard) [D.int 0, D.nil, D.bool false])).toRows, D.bool (cell 2 (mget t_l (D.int shard) [D.int 0, D.nil, D.bool false])).toBool] fun o_0 => (k0 o_0 (mhas t_l (D.int shard)))
def F50 {R : Type} := shut (@Fb50 R)
theorem F50_eq {R : Type} (fu : Nat) (shard : Int) (t_l : List (D × List D)) (k0 : (List D) -> Bool -> Option R) : F50 fu shard t_l k0 = Fb50 fu shard t_l k0 := by unfold F50; rw [shut_eq]
def pc50 (fu : Nat) : Nat -> Option ToldP := fun _ => none
def t50 (fu : Nat) : ToldF := fun _ args s K => match args, s with
 | [.ptr 0 0, .int .i64 shard], [.obj [.map 1], .map (.int .i64) true zq0 t_l] => (match FT.sames zq0 ft2 with | true => F50 fu shard t_l (fun o_ o_1 => K (.tuple [.agg (ofDs 0 ft2 o_), .bool o_1]) [.obj [.map 1], .map (.int .i64) true ft2 (t_l)]) | false => none)
 | _, _ => none
theorem e50 (R : Type) (K : UV -> USt -> Option R) (fu : Nat) (shard : Int) (t_l : List (D × List D)) :
  F50 fu shard t_l (fun o_ o_1 => K (.tuple [.agg (ofDs 0 ft2 o_), .bool o_1]) [.obj [.map 1], .map (.int .i64) true ft2 (t_l)]) = ufun Try.prog ⟨(tb34 fu), pc50 fu⟩ 300 50 [.ptr 0 0, .int .i64 shard] [.obj [.map 1], .map (.int .i64) true ft2 t_l] (funK 2 [.fzP 0 [0, 1] ft0, .gc] K) := (F50_eq fu _ _ _).trans (by kernel_rfl)
theorem s50 (fu : Nat) : Tells Try.prog 50 (t50 fu) := by
 refine ufun_sound (T := ⟨(tb34 fu), pc50 fu⟩) (m := 2) (gout := [.fzP 0 [0, 1] ft0, .gc]) (k := 300) (tb34_sound fu) (fun fn body hf hb => ?_) (fun R args s K r h => ?_) (fun R args s K r h => ?_)
 ·have hc : body = code50 := by
   have h1 : Try.prog.funcs[50]? = some Try.f50 := rfl
   rw [h1] at hf; cases hf
   have h2 : Try.f50.body = some code50 := rfl
   rw [h2] at hb; cases hb; rfl
  subst hc
  exact SoundPc.none _ _ _
 ·unfold t50 at h; split at h
  ·rfl
  ·cases h
 ·unfold t50 at h; split at h
  case h_2 => cases h
  split at h
  case h_2 => cases h
  rename_i hq
  have hq := FT.sames_eq _ _ hq
  subst hq
  exact (e50 R K fu _ _).symm.trans h
def tb50 (fu : Nat) : FuncId -> Option (Bool × ToldF) := fun f => match Nat.beq f 50 with
 | true => some (false, ghG [.gc, .gc] (t50 fu))
 | false => (tb34 fu) f
theorem tb50_sound (fu : Nat) : SoundF' Try.prog (tb50 fu) := by
 intro f own told h
 unfold tb50 at h
 split at h
 ·rename_i hb
  cases h
  have := Nat.eq_of_beq_eq_true hb
  subst this
  exact ghG_sound (s50 fu)
 ·exact (tb34_sound fu) f own told h
def code43 : Code := match Try.f43.body with | some c => c | none => .skip
def Fb43 {R : Type} (fu : Nat) (AL AC : Int) (AB : List (List D)) (AA : Bool) (AK : List (List D)) (AJ : Bool) (AD AG AF AH : Int) (AE : Bool) (AI : Int) (k0 : Bool -> Option R) : Option R :=
 bif decide (0 < ofN AB.length) then F22 fu [D.int AC, D.row AB, D.bool AA] AL fun o_0 => (k0 (decide (o_0 = IntKind.i64.wrap (ofN AB.length - 1)))) else (k0 false)
def F43 {R : Type} := shut (@Fb43 R)
theorem F43_eq {R : Type} (fu : Nat) (AL AC : Int) (AB : List (List D)) (AA : Bool) (AK : List (List D)) (AJ : Bool) (AD AG AF AH : Int) (AE : Bool) (AI : Int) (k0 : Bool -> Option R) : F43 fu AL AC AB AA AK AJ AD AG AF AH AE AI k0 = Fb43 fu AL AC AB AA AK AJ AD AG AF AH AE AI k0 := by unfold F43; rw [shut_eq]
def pc43 (fu : Nat) : Nat -> Option ToldP := fun _ => none
def t43 (fu : Nat) : ToldF := fun _ args s K => match args, s with
 | [.ptr 0 0], [.obj [.int .i64 AL, .int .i64 AC, .fz zq0 AB false, .bool AA, .fz zq1 AK false, .bool AJ, .int .i64 AD, .int .i64 AG, .int .i64 AF, .int .i64 AH, .bool AE, .int .i64 AI]] => (match FT.sames zq0 ft0 with | true => (match FT.sames zq1 ft1 with | true => F43 fu AL AC AB AA AK AJ AD AG AF AH AE AI (fun o_ => K (.bool o_) [.obj [.int .i64 (AL), .int .i64 (AC), .fz ft0 (AB) false, .bool (AA), .fz ft1 (AK) false, .bool (AJ), .int .i64 (AD), .int .i64 (AG), .int .i64 (AF), .int .i64 (AH), .bool (AE), .int .i64 (AI)]]) | false => none) | false => none)
 | _, _ => none
theorem e43 (R : Type) (K : UV -> USt -> Option R) (fu : Nat) (AL AC : Int) (AB : List (List D)) (AA : Bool) (AK : List (List D)) (AJ : Bool) (AD AG AF AH : Int) (AE : Bool) (AI : Int) :
  F43 fu AL AC AB AA AK AJ AD AG AF AH AE AI (fun o_ => K (.bool o_) [.obj [.int .i64 (AL), .int .i64 (AC), .fz ft0 (AB) false, .bool (AA), .fz ft1 (AK) false, .bool (AJ), .int .i64 (AD), .int .i64 (AG), .int .i64 (AF), .int .i64 (AH), .bool (AE), .int .i64 (AI)]]) = ufun Try.prog ⟨(tb50 fu), pc43 fu⟩ 300 43 [.ptr 0 0] [.obj [.int .i64 AL, .int .i64 AC, .fz ft0 AB false, .bool AA, .fz ft1 AK false, .bool AJ, .int .i64 AD, .int .i64 AG, .int .i64 AF, .int .i64 AH, .bool AE, .int .i64 AI]] (funK 1 [.gc, .fzC 0 2 ft0, .fzC 0 4 ft1, .gc] K) := (F43_eq fu _ _ _ _ _ _ _ _ _ _ _ _ _).trans (by kernel_rfl)
theorem s43 (fu : Nat) : Tells Try.prog 43 (t43 fu) := by
 refine ufun_sound (T := ⟨(tb50 fu), pc43 fu⟩) (m := 1) (gout := [.gc, .fzC 0 2 ft0, .fzC 0 4 ft1, .gc]) (k := 300) (tb50_sound fu) (fun fn body hf hb => ?_) (fun R args s K r h => ?_) (fun R args s K r h => ?_)
 ·have hc : body = code43 := by
   have h1 : Try.prog.funcs[43]? = some Try.f43 := rfl
   rw [h1] at hf; cases hf
   have h2 : Try.f43.body = some code43 := rfl
   rw [h2] at hb; cases hb; rfl
  subst hc
  exact SoundPc.none _ _ _
 ·unfold t43 at h; split at h
  ·rfl
  ·cases h
 ·unfold t43 at h; split at h
  case h_2 => cases h
  iterate 2 (split at h; (case h_2 => cases h); rename_i hq; have hq := FT.sames_eq _ _ hq; subst hq)
  exact (e43 R K fu _ _ _ _ _ _ _ _ _ _ _ _).symm.trans h
def tb43 (fu : Nat) : FuncId -> Option (Bool × ToldF) := fun f => match Nat.beq f 43 with
 | true => some (false, ppG (ghG [.gc, .fzC 0 2 ft0, .fzC 0 4 ft1, .gc] (t43 fu)))
 | false => (tb50 fu) f
theorem tb43_sound (fu : Nat) : SoundF' Try.prog (tb43 fu) := by
 intro f own told h
 unfold tb43 at h
 split at h
 ·rename_i hb
  cases h
  have := Nat.eq_of_beq_eq_true hb
  subst this
  exact ppG_sound (ghG_sound (s43 fu))
 ·exact (tb50_sound fu) f own told h
def code24 : Code := match Try.f24.body with | some c => c | none => .skip
def Fb24 {R : Type} (fu : Nat) (AL AC : Int) (AB : List (List D)) (AA : Bool) (AK : List (List D)) (AJ : Bool) (AD AG AF AH : Int) (AE : Bool) (AI : Int) (k0 : Bool -> Option R) : Option R :=
 bif AJ then F43 fu AL AC AB AA AK AJ AD AG AF AH AE AI fun o_0 => (k0 o_0) else (k0 false)
def F24 {R : Type} := shut (@Fb24 R)
theorem F24_eq {R : Type} (fu : Nat) (AL AC : Int) (AB : List (List D)) (AA : Bool) (AK : List (List D)) (AJ : Bool) (AD AG AF AH : Int) (AE : Bool) (AI : Int) (k0 : Bool -> Option R) : F24 fu AL AC AB AA AK AJ AD AG AF AH AE AI k0 = Fb24 fu AL AC AB AA AK AJ AD AG AF AH AE AI k0 := by unfold F24; rw [shut_eq]
def pc24 (fu : Nat) : Nat -> Option ToldP := fun _ => none
def t24 (fu : Nat) : ToldF := fun _ args s K => match args, s with
 | [.ptr 0 0], [.obj [.int .i64 AL, .int .i64 AC, .fz zq0 AB false, .bool AA, .fz zq1 AK false, .bool AJ, .int .i64 AD, .int .i64 AG, .int .i64 AF, .int .i64 AH, .bool AE, .int .i64 AI]] => (match FT.sames zq0 ft0 with | true => (match FT.sames zq1 ft1 with | true => F24 fu AL AC AB AA AK AJ AD AG AF AH AE AI (fun o_ => K (.bool o_) [.obj [.int .i64 (AL), .int .i64 (AC), .fz ft0 (AB) false, .bool (AA), .fz ft1 (AK) false, .bool (AJ), .int .i64 (AD), .int .i64 (AG), .int .i64 (AF), .int .i64 (AH), .bool (AE), .int .i64 (AI)]]) | false => none) | false => none)
 | _, _ => none
theorem e24 (R : Type) (K : UV -> USt -> Option R) (fu : Nat) (AL AC : Int) (AB : List (List D)) (AA : Bool) (AK : List (List D)) (AJ : Bool) (AD AG AF AH : Int) (AE : Bool) (AI : Int) :
  F24 fu AL AC AB AA AK AJ AD AG AF AH AE AI (fun o_ => K (.bool o_) [.obj [.int .i64 (AL), .int .i64 (AC), .fz ft0 (AB) false, .bool (AA), .fz ft1 (AK) false, .bool (AJ), .int .i64 (AD), .int .i64 (AG), .int .i64 (AF), .int .i64 (AH), .bool (AE), .int .i64 (AI)]]) = ufun Try.prog ⟨(tb43 fu), pc24 fu⟩ 300 24 [.ptr 0 0] [.obj [.int .i64 AL, .int .i64 AC, .fz ft0 AB false, .bool AA, .fz ft1 AK false, .bool AJ, .int .i64 AD, .int .i64 AG, .int .i64 AF, .int .i64 AH, .bool AE, .int .i64 AI]] (funK 1 [.gc, .fzC 0 2 ft0, .fzC 0 4 ft1, .gc] K) := (F24_eq fu _ _ _ _ _ _ _ _ _ _ _ _ _).trans (by kernel_rfl)
theorem s24 (fu : Nat) : Tells Try.prog 24 (t24 fu) := by
 refine ufun_sound (T := ⟨(tb43 fu), pc24 fu⟩) (m := 1) (gout := [.gc, .fzC 0 2 ft0, .fzC 0 4 ft1, .gc]) (k := 300) (tb43_sound fu) (fun fn body hf hb => ?_) (fun R args s K r h => ?_) (fun R args s K r h => ?_)
 ·have hc : body = code24 := by
   have h1 : Try.prog.funcs[24]? = some Try.f24 := rfl
   rw [h1] at hf; cases hf
   have h2 : Try.f24.body = some code24 := rfl
   rw [h2] at hb; cases hb; rfl
  subst hc
  exact SoundPc.none _ _ _
 ·unfold t24 at h; split at h
  ·rfl
  ·cases h
 ·unfold t24 at h; split at h
  case h_2 => cases h
  iterate 2 (split at h; (case h_2 => cases h); rename_i hq; have hq := FT.sames_eq _ _ hq; subst hq)
  exact (e24 R K fu _ _ _ _ _ _ _ _ _ _ _ _).symm.trans h
def tb24 (fu : Nat) : FuncId -> Option (Bool × ToldF) := fun f => match Nat.beq f 24 with
 | true => some (false, ppG (ghG [.gc, .fzC 0 2 ft0, .fzC 0 4 ft1, .gc] (t24 fu)))
 | false => (tb43 fu) f
theorem tb24_sound (fu : Nat) : SoundF' Try.prog (tb24 fu) := by
 intro f own told h
 unfold tb24 at h
 split at h
 ·rename_i hb
  cases h
  have := Nat.eq_of_beq_eq_true hb
  subst this
  exact ppG_sound (ghG_sound (s24 fu))
 ·exact (tb43_sound fu) f own told h
def code23 : Code := match Try.f23.body with | some c => c | none => .skip
def Fb23 {R : Type} (fu : Nat) (AL AC : Int) (AB : List (List D)) (AA : Bool) (AK : List (List D)) (AJ : Bool) (AD AG AF AH : Int) (AE : Bool) (AI : Int) (k0 : Bool -> Option R) : Option R :=
 bif AJ then F22 fu [D.int AC, D.row AB, D.bool AA] AL fun o_0 => (k0 (decide (o_0 = 0))) else (k0 false)
def F23 {R : Type} := shut (@Fb23 R)
theorem F23_eq {R : Type} (fu : Nat) (AL AC : Int) (AB : List (List D)) (AA : Bool) (AK : List (List D)) (AJ : Bool) (AD AG AF AH : Int) (AE : Bool) (AI : Int) (k0 : Bool -> Option R) : F23 fu AL AC AB AA AK AJ AD AG AF AH AE AI k0 = Fb23 fu AL AC AB AA AK AJ AD AG AF AH AE AI k0 := by unfold F23; rw [shut_eq]
def pc23 (fu : Nat) : Nat -> Option ToldP := fun _ => none
def t23 (fu : Nat) : ToldF := fun _ args s K => match args, s with
 | [.ptr 0 0], [.obj [.int .i64 AL, .int .i64 AC, .fz zq0 AB false, .bool AA, .fz zq1 AK false, .bool AJ, .int .i64 AD, .int .i64 AG, .int .i64 AF, .int .i64 AH, .bool AE, .int .i64 AI]] => (match FT.sames zq0 ft0 with | true => (match FT.sames zq1 ft1 with | true => F23 fu AL AC AB AA AK AJ AD AG AF AH AE AI (fun o_ => K (.bool o_) [.obj [.int .i64 (AL), .int .i64 (AC), .fz ft0 (AB) false, .bool (AA), .fz ft1 (AK) false, .bool (AJ), .int .i64 (AD), .int .i64 (AG), .int .i64 (AF), .int .i64 (AH), .bool (AE), .int .i64 (AI)]]) | false => none) | false => none)
 | _, _ => none
theorem e23 (R : Type) (K : UV -> USt -> Option R) (fu : Nat) (AL AC : Int) (AB : List (List D)) (AA : Bool) (AK : List (List D)) (AJ : Bool) (AD AG AF AH : Int) (AE : Bool) (AI : Int) :
  F23 fu AL AC AB AA AK AJ AD AG AF AH AE AI (fun o_ => K (.bool o_) [.obj [.int .i64 (AL), .int .i64 (AC), .fz ft0 (AB) false, .bool (AA), .fz ft1 (AK) false, .bool (AJ), .int .i64 (AD), .int .i64 (AG), .int .i64 (AF), .int .i64 (AH), .bool (AE), .int .i64 (AI)]]) = ufun Try.prog ⟨(tb24 fu), pc23 fu⟩ 300 23 [.ptr 0 0] [.obj [.int .i64 AL, .int .i64 AC, .fz ft0 AB false, .bool AA, .fz ft1 AK false, .bool AJ, .int .i64 AD, .int .i64 AG, .int .i64 AF, .int .i64 AH, .bool AE, .int .i64 AI]] (funK 1 [.gc, .fzC 0 2 ft0, .fzC 0 4 ft1, .gc] K) := (F23_eq fu _ _ _ _ _ _ _ _ _ _ _ _ _).trans (by kernel_rfl)
theorem s23 (fu : Nat) : Tells Try.prog 23 (t23 fu) := by
 refine ufun_sound (T := ⟨(tb24 fu), pc23 fu⟩) (m := 1) (gout := [.gc, .fzC 0 2 ft0, .fzC 0 4 ft1, .gc]) (k := 300) (tb24_sound fu) (fun fn body hf hb => ?_) (fun R args s K r h => ?_) (fun R args s K r h => ?_)
 ·have hc : body = code23 := by
   have h1 : Try.prog.funcs[23]? = some Try.f23 := rfl
   rw [h1] at hf; cases hf
   have h2 : Try.f23.body = some code23 := rfl
   rw [h2] at hb; cases hb; rfl
  subst hc
  exact SoundPc.none _ _ _
 ·unfold t23 at h; split at h
  ·rfl
  ·cases h
 ·unfold t23 at h; split at h
  case h_2 => cases h
  iterate 2 (split at h; (case h_2 => cases h); rename_i hq; have hq := FT.sames_eq _ _ hq; subst hq)
  exact (e23 R K fu _ _ _ _ _ _ _ _ _ _ _ _).symm.trans h
def tb23 (fu : Nat) : FuncId -> Option (Bool × ToldF) := fun f => match Nat.beq f 23 with
 | true => some (false, ppG (ghG [.gc, .fzC 0 2 ft0, .fzC 0 4 ft1, .gc] (t23 fu)))
 | false => (tb24 fu) f
theorem tb23_sound (fu : Nat) : SoundF' Try.prog (tb23 fu) := by
 intro f own told h
 unfold tb23 at h
 split at h
 ·rename_i hb
  cases h
  have := Nat.eq_of_beq_eq_true hb
  subst this
  exact ppG_sound (ghG_sound (s23 fu))
 ·exact (tb24_sound fu) f own told h
def code21 : Code := match Try.f21.body with | some c => c | none => .skip
def Fb21 {R : Type} (fu : Nat) (AL AC : Int) (AB : List (List D)) (AA : Bool) (AK : List (List D)) (AJ : Bool) (AD AG AF AH : Int) (AE : Bool) (AI : Int) (k0 : Option R) : Option R :=
 (k0)
def F21 {R : Type} := shut (@Fb21 R)
theorem F21_eq {R : Type} (fu : Nat) (AL AC : Int) (AB : List (List D)) (AA : Bool) (AK : List (List D)) (AJ : Bool) (AD AG AF AH : Int) (AE : Bool) (AI : Int) (k0 : Option R) : F21 fu AL AC AB AA AK AJ AD AG AF AH AE AI k0 = Fb21 fu AL AC AB AA AK AJ AD AG AF AH AE AI k0 := by unfold F21; rw [shut_eq]
def pc21 (fu : Nat) : Nat -> Option ToldP := fun _ => none
def t21 (fu : Nat) : ToldF := fun _ args s K => match args, s with
 | [.ptr 0 0], [.obj [.int .i64 AL, .int .i64 AC, .fz zq0 AB false, .bool AA, .fz zq1 AK false, .bool AJ, .int .i64 AD, .int .i64 AG, .int .i64 AF, .int .i64 AH, .bool AE, .int .i64 AI]] => (match FT.sames zq0 ft0 with | true => (match FT.sames zq1 ft1 with | true => F21 fu AL AC AB AA AK AJ AD AG AF AH AE AI (K (.bool (AJ)) [.obj [.int .i64 (AL), .int .i64 (AC), .fz ft0 (AB) false, .bool (AA), .fz ft1 (AK) false, .bool (AJ), .int .i64 (AD), .int .i64 (AG), .int .i64 (AF), .int .i64 (AH), .bool (AE), .int .i64 (AI)]]) | false => none) | false => none)
 | _, _ => none
theorem e21 (R : Type) (K : UV -> USt -> Option R) (fu : Nat) (AL AC : Int) (AB : List (List D)) (AA : Bool) (AK : List (List D)) (AJ : Bool) (AD AG AF AH : Int) (AE : Bool) (AI : Int) :
  F21 fu AL AC AB AA AK AJ AD AG AF AH AE AI (K (.bool (AJ)) [.obj [.int .i64 (AL), .int .i64 (AC), .fz ft0 (AB) false, .bool (AA), .fz ft1 (AK) false, .bool (AJ), .int .i64 (AD), .int .i64 (AG), .int .i64 (AF), .int .i64 (AH), .bool (AE), .int .i64 (AI)]]) = ufun Try.prog ⟨(tb23 fu), pc21 fu⟩ 300 21 [.ptr 0 0] [.obj [.int .i64 AL, .int .i64 AC, .fz ft0 AB false, .bool AA, .fz ft1 AK false, .bool AJ, .int .i64 AD, .int .i64 AG, .int .i64 AF, .int .i64 AH, .bool AE, .int .i64 AI]] (funK 1 [.gc, .fzC 0 2 ft0, .fzC 0 4 ft1, .gc] K) := (F21_eq fu _ _ _ _ _ _ _ _ _ _ _ _ _).trans (by kernel_rfl)
theorem s21 (fu : Nat) : Tells Try.prog 21 (t21 fu) := by
 refine ufun_sound (T := ⟨(tb23 fu), pc21 fu⟩) (m := 1) (gout := [.gc, .fzC 0 2 ft0, .fzC 0 4 ft1, .gc]) (k := 300) (tb23_sound fu) (fun fn body hf hb => ?_) (fun R args s K r h => ?_) (fun R args s K r h => ?_)
 ·have hc : body = code21 := by
   have h1 : Try.prog.funcs[21]? = some Try.f21 := rfl
   rw [h1] at hf; cases hf
   have h2 : Try.f21.body = some code21 := rfl
   rw [h2] at hb; cases hb; rfl
  subst hc
  exact SoundPc.none _ _ _
 ·unfold t21 at h; split at h
  ·rfl
  ·cases h
 ·unfold t21 at h; split at h
  case h_2 => cases h
  iterate 2 (split at h; (case h_2 => cases h); rename_i hq; have hq := FT.sames_eq _ _ hq; subst hq)
  exact (e21 R K fu _ _ _ _ _ _ _ _ _ _ _ _).symm.trans h
def tb21 (fu : Nat) : FuncId -> Option (Bool × ToldF) := fun f => match Nat.beq f 21 with
 | true => some (false, ppG (ghG [.gc, .fzC 0 2 ft0, .fzC 0 4 ft1, .gc] (t21 fu)))
 | false => (tb23 fu) f
theorem tb21_sound (fu : Nat) : SoundF' Try.prog (tb21 fu) := by
 intro f own told h
 unfold tb21 at h
 split at h
 ·rename_i hb
  cases h
  have := Nat.eq_of_beq_eq_true hb
  subst this
  exact ppG_sound (ghG_sound (s21 fu))
 ·exact (tb23_sound fu) f own told h
def code19 : Code := match Try.f19.body with | some c => c | none => .skip
def Fb19 {R : Type} (fu : Nat) (AL AC : Int) (AB : List (List D)) (AA : Bool) (AK : List (List D)) (AJ : Bool) (AD AG AF AH : Int) (AE : Bool) (AI : Int) (k0 : Option R) : Option R :=
 (k0)
def F19 {R : Type} := shut (@Fb19 R)
theorem F19_eq {R : Type} (fu : Nat) (AL AC : Int) (AB : List (List D)) (AA : Bool) (AK : List (List D)) (AJ : Bool) (AD AG AF AH : Int) (AE : Bool) (AI : Int) (k0 : Option R) : F19 fu AL AC AB AA AK AJ AD AG AF AH AE AI k0 = Fb19 fu AL AC AB AA AK AJ AD AG AF AH AE AI k0 := by unfold F19; rw [shut_eq]
def pc19 (fu : Nat) : Nat -> Option ToldP := fun _ => none
def t19 (fu : Nat) : ToldF := fun _ args s K => match args, s with
 | [.ptr 0 0], [.obj [.int .i64 AL, .int .i64 AC, .fz zq0 AB false, .bool AA, .fz zq1 AK false, .bool AJ, .int .i64 AD, .int .i64 AG, .int .i64 AF, .int .i64 AH, .bool AE, .int .i64 AI]] => (match FT.sames zq0 ft0 with | true => (match FT.sames zq1 ft1 with | true => F19 fu AL AC AB AA AK AJ AD AG AF AH AE AI (K (.int .i64 (AC)) [.obj [.int .i64 (AL), .int .i64 (AC), .fz ft0 (AB) false, .bool (AA), .fz ft1 (AK) false, .bool (AJ), .int .i64 (AD), .int .i64 (AG), .int .i64 (AF), .int .i64 (AH), .bool (AE), .int .i64 (AI)]]) | false => none) | false => none)
 | _, _ => none
theorem e19 (R : Type) (K : UV -> USt -> Option R) (fu : Nat) (AL AC : Int) (AB : List (List D)) (AA : Bool) (AK : List (List D)) (AJ : Bool) (AD AG AF AH : Int) (AE : Bool) (AI : Int) :
  F19 fu AL AC AB AA AK AJ AD AG AF AH AE AI (K (.int .i64 (AC)) [.obj [.int .i64 (AL), .int .i64 (AC), .fz ft0 (AB) false, .bool (AA), .fz ft1 (AK) false, .bool (AJ), .int .i64 (AD), .int .i64 (AG), .int .i64 (AF), .int .i64 (AH), .bool (AE), .int .i64 (AI)]]) = ufun Try.prog ⟨(tb21 fu), pc19 fu⟩ 300 19 [.ptr 0 0] [.obj [.int .i64 AL, .int .i64 AC, .fz ft0 AB false, .bool AA, .fz ft1 AK false, .bool AJ, .int .i64 AD, .int .i64 AG, .int .i64 AF, .int .i64 AH, .bool AE, .int .i64 AI]] (funK 1 [.gc, .fzC 0 2 ft0, .fzC 0 4 ft1, .gc] K) := (F19_eq fu _ _ _ _ _ _ _ _ _ _ _ _ _).trans (by kernel_rfl)
theorem s19 (fu : Nat) : Tells Try.prog 19 (t19 fu) := by
 refine ufun_sound (T := ⟨(tb21 fu), pc19 fu⟩) (m := 1) (gout := [.gc, .fzC 0 2 ft0, .fzC 0 4 ft1, .gc]) (k := 300) (tb21_sound fu) (fun fn body hf hb => ?_) (fun R args s K r h => ?_) (fun R args s K r h => ?_)
 ·have hc : body = code19 := by
   have h1 : Try.prog.funcs[19]? = some Try.f19 := rfl
   rw [h1] at hf; cases hf
   have h2 : Try.f19.body = some code19 := rfl
   rw [h2] at hb; cases hb; rfl
  subst hc
  exact SoundPc.none _ _ _
 ·unfold t19 at h; split at h
  ·rfl
  ·cases h
 ·unfold t19 at h; split at h
  case h_2 => cases h
  iterate 2 (split at h; (case h_2 => cases h); rename_i hq; have hq := FT.sames_eq _ _ hq; subst hq)
  exact (e19 R K fu _ _ _ _ _ _ _ _ _ _ _ _).symm.trans h
def tb19 (fu : Nat) : FuncId -> Option (Bool × ToldF) := fun f => match Nat.beq f 19 with
 | true => some (false, ppG (ghG [.gc, .fzC 0 2 ft0, .fzC 0 4 ft1, .gc] (t19 fu)))
 | false => (tb21 fu) f
theorem tb19_sound (fu : Nat) : SoundF' Try.prog (tb19 fu) := by
 intro f own told h
 unfold tb19 at h
 split at h
 ·rename_i hb
  cases h
  have := Nat.eq_of_beq_eq_true hb
  subst this
  exact ppG_sound (ghG_sound (s19 fu))
 ·exact (tb21_sound fu) f own told h
def code17 : Code := match Try.f17.body with | some c => c | none => .skip
def Fb17 {R : Type} (fu : Nat) (AL AC : Int) (AB : List (List D)) (AA : Bool) (AK : List (List D)) (AJ : Bool) (AD AG AF AH : Int) (AE : Bool) (AI : Int) (k0 : Option R) : Option R :=
 (k0)
def F17 {R : Type} := shut (@Fb17 R)
theorem F17_eq {R : Type} (fu : Nat) (AL AC : Int) (AB : List (List D)) (AA : Bool) (AK : List (List D)) (AJ : Bool) (AD AG AF AH : Int) (AE : Bool) (AI : Int) (k0 : Option R) : F17 fu AL AC AB AA AK AJ AD AG AF AH AE AI k0 = Fb17 fu AL AC AB AA AK AJ AD AG AF AH AE AI k0 := by unfold F17; rw [shut_eq]
def pc17 (fu : Nat) : Nat -> Option ToldP := fun _ => none
def t17 (fu : Nat) : ToldF := fun _ args s K => match args, s with
 | [.ptr 0 0], [.obj [.int .i64 AL, .int .i64 AC, .fz zq0 AB false, .bool AA, .fz zq1 AK false, .bool AJ, .int .i64 AD, .int .i64 AG, .int .i64 AF, .int .i64 AH, .bool AE, .int .i64 AI]] => (match FT.sames zq0 ft0 with | true => (match FT.sames zq1 ft1 with | true => F17 fu AL AC AB AA AK AJ AD AG AF AH AE AI (K (.int .i64 (AD)) [.obj [.int .i64 (AL), .int .i64 (AC), .fz ft0 (AB) false, .bool (AA), .fz ft1 (AK) false, .bool (AJ), .int .i64 (AD), .int .i64 (AG), .int .i64 (AF), .int .i64 (AH), .bool (AE), .int .i64 (AI)]]) | false => none) | false => none)
 | _, _ => none
theorem e17 (R : Type) (K : UV -> USt -> Option R) (fu : Nat) (AL AC : Int) (AB : List (List D)) (AA : Bool) (AK : List (List D)) (AJ : Bool) (AD AG AF AH : Int) (AE : Bool) (AI : Int) :
  F17 fu AL AC AB AA AK AJ AD AG AF AH AE AI (K (.int .i64 (AD)) [.obj [.int .i64 (AL), .int .i64 (AC), .fz ft0 (AB) false, .bool (AA), .fz ft1 (AK) false, .bool (AJ), .int .i64 (AD), .int .i64 (AG), .int .i64 (AF), .int .i64 (AH), .bool (AE), .int .i64 (AI)]]) = ufun Try.prog ⟨(tb19 fu), pc17 fu⟩ 300 17 [.ptr 0 0] [.obj [.int .i64 AL, .int .i64 AC, .fz ft0 AB false, .bool AA, .fz ft1 AK false, .bool AJ, .int .i64 AD, .int .i64 AG, .int .i64 AF, .int .i64 AH, .bool AE, .int .i64 AI]] (funK 1 [.gc, .fzC 0 2 ft0, .fzC 0 4 ft1, .gc] K) := (F17_eq fu _ _ _ _ _ _ _ _ _ _ _ _ _).trans (by kernel_rfl)
theorem s17 (fu : Nat) : Tells Try.prog 17 (t17 fu) := by
 refine ufun_sound (T := ⟨(tb19 fu), pc17 fu⟩) (m := 1) (gout := [.gc, .fzC 0 2 ft0, .fzC 0 4 ft1, .gc]) (k := 300) (tb19_sound fu) (fun fn body hf hb => ?_) (fun R args s K r h => ?_) (fun R args s K r h => ?_)
 ·have hc : body = code17 := by
   have h1 : Try.prog.funcs[17]? = some Try.f17 := rfl
   rw [h1] at hf; cases hf
   have h2 : Try.f17.body = some code17 := rfl
   rw [h2] at hb; cases hb; rfl
  subst hc
  exact SoundPc.none _ _ _
 ·unfold t17 at h; split at h
  ·rfl
  ·cases h
 ·unfold t17 at h; split at h
  case h_2 => cases h
  iterate 2 (split at h; (case h_2 => cases h); rename_i hq; have hq := FT.sames_eq _ _ hq; subst hq)
  exact (e17 R K fu _ _ _ _ _ _ _ _ _ _ _ _).symm.trans h
def tb17 (fu : Nat) : FuncId -> Option (Bool × ToldF) := fun f => match Nat.beq f 17 with
 | true => some (false, ppG (ghG [.gc, .fzC 0 2 ft0, .fzC 0 4 ft1, .gc] (t17 fu)))
 | false => (tb19 fu) f
theorem tb17_sound (fu : Nat) : SoundF' Try.prog (tb17 fu) := by
 intro f own told h
 unfold tb17 at h
 split at h
 ·rename_i hb
  cases h
  have := Nat.eq_of_beq_eq_true hb
  subst this
  exact ppG_sound (ghG_sound (s17 fu))
 ·exact (tb19_sound fu) f own told h
def code16 : Code := match Try.f16.body with | some c => c | none => .skip
def Fb16 {R : Type} (fu : Nat) (AL AC : Int) (AB : List (List D)) (AA : Bool) (AK : List (List D)) (AJ : Bool) (AD AG AF AH : Int) (AE : Bool) (AI : Int) (k0 : Option R) : Option R :=
 bif fits AK.length 16 then (k0) else none
def F16 {R : Type} := shut (@Fb16 R)
theorem F16_eq {R : Type} (fu : Nat) (AL AC : Int) (AB : List (List D)) (AA : Bool) (AK : List (List D)) (AJ : Bool) (AD AG AF AH : Int) (AE : Bool) (AI : Int) (k0 : Option R) : F16 fu AL AC AB AA AK AJ AD AG AF AH AE AI k0 = Fb16 fu AL AC AB AA AK AJ AD AG AF AH AE AI k0 := by unfold F16; rw [shut_eq]
def pc16 (fu : Nat) : Nat -> Option ToldP := fun _ => none
def t16 (fu : Nat) : ToldF := fun _ args s K => match args, s with
 | [.ptr 0 0], [.obj [.int .i64 AL, .int .i64 AC, .fz zq0 AB false, .bool AA, .fz zq1 AK false, .bool AJ, .int .i64 AD, .int .i64 AG, .int .i64 AF, .int .i64 AH, .bool AE, .int .i64 AI]] => (match FT.sames zq0 ft0 with | true => (match FT.sames zq1 ft1 with | true => F16 fu AL AC AB AA AK AJ AD AG AF AH AE AI (K (.own 1) [.obj [.int .i64 (AL), .int .i64 (AC), .fz ft0 (AB) false, .bool (AA), .fz ft1 (AK) false, .bool (AJ), .int .i64 (AD), .int .i64 (AG), .int .i64 (AF), .int .i64 (AH), .bool (AE), .int .i64 (AI)], .row ft1 (AK)]) | false => none) | false => none)
 | _, _ => none
theorem e16 (R : Type) (K : UV -> USt -> Option R) (fu : Nat) (AL AC : Int) (AB : List (List D)) (AA : Bool) (AK : List (List D)) (AJ : Bool) (AD AG AF AH : Int) (AE : Bool) (AI : Int) :
  F16 fu AL AC AB AA AK AJ AD AG AF AH AE AI (K (.own 1) [.obj [.int .i64 (AL), .int .i64 (AC), .fz ft0 (AB) false, .bool (AA), .fz ft1 (AK) false, .bool (AJ), .int .i64 (AD), .int .i64 (AG), .int .i64 (AF), .int .i64 (AH), .bool (AE), .int .i64 (AI)], .row ft1 (AK)]) = ufun Try.prog ⟨(tb17 fu), pc16 fu⟩ 300 16 [.ptr 0 0] [.obj [.int .i64 AL, .int .i64 AC, .fz ft0 AB false, .bool AA, .fz ft1 AK false, .bool AJ, .int .i64 AD, .int .i64 AG, .int .i64 AF, .int .i64 AH, .bool AE, .int .i64 AI]] (funK 1 [.gc, .fzC 0 2 ft0, .fzC 0 4 ft1, .gc] K) := (F16_eq fu _ _ _ _ _ _ _ _ _ _ _ _ _).trans (by kernel_rfl)
theorem s16 (fu : Nat) : Tells Try.prog 16 (t16 fu) := by
 refine ufun_sound (T := ⟨(tb17 fu), pc16 fu⟩) (m := 1) (gout := [.gc, .fzC 0 2 ft0, .fzC 0 4 ft1, .gc]) (k := 300) (tb17_sound fu) (fun fn body hf hb => ?_) (fun R args s K r h => ?_) (fun R args s K r h => ?_)
 ·have hc : body = code16 := by
   have h1 : Try.prog.funcs[16]? = some Try.f16 := rfl
   rw [h1] at hf; cases hf
   have h2 : Try.f16.body = some code16 := rfl
   rw [h2] at hb; cases hb; rfl
  subst hc
  exact SoundPc.none _ _ _
 ·unfold t16 at h; split at h
  ·rfl
  ·cases h
 ·unfold t16 at h; split at h
  case h_2 => cases h
  iterate 2 (split at h; (case h_2 => cases h); rename_i hq; have hq := FT.sames_eq _ _ hq; subst hq)
  exact (e16 R K fu _ _ _ _ _ _ _ _ _ _ _ _).symm.trans h
def tb16 (fu : Nat) : FuncId -> Option (Bool × ToldF) := fun f => match Nat.beq f 16 with
 | true => some (false, ppG (ghG [.gc, .fzC 0 2 ft0, .fzC 0 4 ft1, .gc] (t16 fu)))
 | false => (tb17 fu) f
theorem tb16_sound (fu : Nat) : SoundF' Try.prog (tb16 fu) := by
 intro f own told h
 unfold tb16 at h
 split at h
 ·rename_i hb
  cases h
  have := Nat.eq_of_beq_eq_true hb
  subst this
  exact ppG_sound (ghG_sound (s16 fu))
 ·exact (tb17_sound fu) f own told h
abbrev ft4 : List FT := [FT.int IntKind.i64, FT.row 8 [FT.int IntKind.i64], FT.bool, FT.row 16 [FT.str]]
def code20 : Code := match Try.f20.body with | some c => c | none => .skip
def Fb20 {R : Type} (fu : Nat) (AL AC : Int) (AB : List (List D)) (AA : Bool) (AK : List (List D)) (AJ : Bool) (AD AG AF AH : Int) (AE : Bool) (AI : Int) (k0 : (List D) -> Option R) : Option R :=
 F41 fu [D.int AC, D.row AB, D.bool AA] fun o_0 => bif fits AK.length 16 then (k0 [D.int ((cell 0 o_0).toInt), D.row ((cell 1 o_0).toRows), D.bool ((cell 2 o_0).toBool), D.row (AK)]) else none
def F20 {R : Type} := shut (@Fb20 R)
theorem F20_eq {R : Type} (fu : Nat) (AL AC : Int) (AB : List (List D)) (AA : Bool) (AK : List (List D)) (AJ : Bool) (AD AG AF AH : Int) (AE : Bool) (AI : Int) (k0 : (List D) -> Option R) : F20 fu AL AC AB AA AK AJ AD AG AF AH AE AI k0 = Fb20 fu AL AC AB AA AK AJ AD AG AF AH AE AI k0 := by unfold F20; rw [shut_eq]
def pc20 (fu : Nat) : Nat -> Option ToldP := fun _ => none
def t20 (fu : Nat) : ToldF := fun _ args s K => match args, s with
 | [.ptr 0 0], [.obj [.int .i64 AL, .int .i64 AC, .fz zq0 AB false, .bool AA, .fz zq1 AK false, .bool AJ, .int .i64 AD, .int .i64 AG, .int .i64 AF, .int .i64 AH, .bool AE, .int .i64 AI]] => (match FT.sames zq0 ft0 with | true => (match FT.sames zq1 ft1 with | true => F20 fu AL AC AB AA AK AJ AD AG AF AH AE AI (fun o_ => K (.agg (ofDs 0 ft4 o_)) [.obj [.int .i64 (AL), .int .i64 (AC), .fz ft0 (AB) false, .bool (AA), .fz ft1 (AK) false, .bool (AJ), .int .i64 (AD), .int .i64 (AG), .int .i64 (AF), .int .i64 (AH), .bool (AE), .int .i64 (AI)]]) | false => none) | false => none)
 | _, _ => none
theorem e20 (R : Type) (K : UV -> USt -> Option R) (fu : Nat) (AL AC : Int) (AB : List (List D)) (AA : Bool) (AK : List (List D)) (AJ : Bool) (AD AG AF AH : Int) (AE : Bool) (AI : Int) :
  F20 fu AL AC AB AA AK AJ AD AG AF AH AE AI (fun o_ => K (.agg (ofDs 0 ft4 o_)) [.obj [.int .i64 (AL), .int .i64 (AC), .fz ft0 (AB) false, .bool (AA), .fz ft1 (AK) false, .bool (AJ), .int .i64 (AD), .int .i64 (AG), .int .i64 (AF), .int .i64 (AH), .bool (AE), .int .i64 (AI)]]) = ufun Try.prog ⟨(tb16 fu), pc20 fu⟩ 300 20 [.ptr 0 0] [.obj [.int .i64 AL, .int .i64 AC, .fz ft0 AB false, .bool AA, .fz ft1 AK false, .bool AJ, .int .i64 AD, .int .i64 AG, .int .i64 AF, .int .i64 AH, .bool AE, .int .i64 AI]] (funK 1 [.fzP 0 [1] ft0, .fzP 0 [3] ft1, .gc, .fzC 0 2 ft0, .fzC 0 4 ft1, .gc] K) := (F20_eq fu _ _ _ _ _ _ _ _ _ _ _ _ _).trans (by kernel_rfl)
theorem s20 (fu : Nat) : Tells Try.prog 20 (t20 fu) := by
 refine ufun_sound (T := ⟨(tb16 fu), pc20 fu⟩) (m := 1) (gout := [.fzP 0 [1] ft0, .fzP 0 [3] ft1, .gc, .fzC 0 2 ft0, .fzC 0 4 ft1, .gc]) (k := 300) (tb16_sound fu) (fun fn body hf hb => ?_) (fun R args s K r h => ?_) (fun R args s K r h => ?_)
 ·have hc : body = code20 := by
   have h1 : Try.prog.funcs[20]? = some Try.f20 := rfl
   rw [h1] at hf; cases hf
   have h2 : Try.f20.body = some code20 := rfl
   rw [h2] at hb; cases hb; rfl
  subst hc
  exact SoundPc.none _ _ _
 ·unfold t20 at h; split at h
  ·rfl
  ·cases h
 ·unfold t20 at h; split at h
  case h_2 => cases h
  iterate 2 (split at h; (case h_2 => cases h); rename_i hq; have hq := FT.sames_eq _ _ hq; subst hq)
  exact (e20 R K fu _ _ _ _ _ _ _ _ _ _ _ _).symm.trans h
def tb20 (fu : Nat) : FuncId -> Option (Bool × ToldF) := fun f => match Nat.beq f 20 with
 | true => some (false, ppG (ghG [.gc, .fzC 0 2 ft0, .fzC 0 4 ft1, .gc] (t20 fu)))
 | false => (tb16 fu) f
theorem tb20_sound (fu : Nat) : SoundF' Try.prog (tb20 fu) := by
 intro f own told h
 unfold tb20 at h
 split at h
 ·rename_i hb
  cases h
  have := Nat.eq_of_beq_eq_true hb
  subst this
  exact ppG_sound (ghG_sound (s20 fu))
 ·exact (tb16_sound fu) f own told h
def code29 : Code := match Try.f29.body with | some c => c | none => .skip
def Fb29 {R : Type} (fu : Nat) (id : Int) (k_ : List D) (k0 : Int -> (List (List D)) -> Bool -> (List (List D)) -> Option R) : Option R :=
 F41 fu [D.int (cell 0 k_).toInt, D.row (cell 1 k_).toRows, D.bool (cell 2 k_).toBool] fun o_0 => bif fits (cell 3 k_).toRows.length 16 then (k0 ((cell 0 o_0).toInt) ((cell 1 o_0).toRows) ((cell 2 o_0).toBool) ((cell 3 k_).toRows)) else none
def F29 {R : Type} := shut (@Fb29 R)
theorem F29_eq {R : Type} (fu : Nat) (id : Int) (k_ : List D) (k0 : Int -> (List (List D)) -> Bool -> (List (List D)) -> Option R) : F29 fu id k_ k0 = Fb29 fu id k_ k0 := by unfold F29; rw [shut_eq]
def pc29 (fu : Nat) : Nat -> Option ToldP := fun _ => none
def t29 (fu : Nat) : ToldF := fun _ args s K => match args, s with
 | [.int .i64 id, .agg [.int .i64 q, .fz zq0 q1 false, .bool q2, .fz zq1 q3 false]], [] => (match FT.sames zq0 ft0 with | true => (match FT.sames zq1 ft1 with | true => F29 fu id [D.int q, D.row q1, D.bool q2, D.row q3] (fun o_ o_1 o_2 o_3 => K (.ptr 0 0) [.obj [.int .i64 (id), .int .i64 o_, .fz ft0 o_1 false, .bool o_2, .fz ft1 o_3 false, .bool (false), .int .i64 (0), .int .i64 (0), .int .i64 (0), .int .i64 (0), .bool (false), .int .i64 (0)]]) | false => none) | false => none)
 | _, _ => none
theorem e29 (R : Type) (K : UV -> USt -> Option R) (fu : Nat) (id q : Int) (q1 : List (List D)) (q2 : Bool) (q3 : List (List D)) :
  F29 fu id [D.int q, D.row q1, D.bool q2, D.row q3] (fun o_ o_1 o_2 o_3 => K (.ptr 0 0) [.obj [.int .i64 (id), .int .i64 o_, .fz ft0 o_1 false, .bool o_2, .fz ft1 o_3 false, .bool (false), .int .i64 (0), .int .i64 (0), .int .i64 (0), .int .i64 (0), .bool (false), .int .i64 (0)]]) = ufun Try.prog ⟨(tb20 fu), pc29 fu⟩ 300 29 [.int .i64 id, .agg [.int .i64 q, .fz ft0 q1 false, .bool q2, .fz ft1 q3 false]] [] (funK 0 [.gc, .fzC 0 2 ft0, .fzC 0 4 ft1, .gc] K) := (F29_eq fu _ _ _).trans (by kernel_rfl)
theorem s29 (fu : Nat) : Tells Try.prog 29 (t29 fu) := by
 refine ufun_sound (T := ⟨(tb20 fu), pc29 fu⟩) (m := 0) (gout := [.gc, .fzC 0 2 ft0, .fzC 0 4 ft1, .gc]) (k := 300) (tb20_sound fu) (fun fn body hf hb => ?_) (fun R args s K r h => ?_) (fun R args s K r h => ?_)
 ·have hc : body = code29 := by
   have h1 : Try.prog.funcs[29]? = some Try.f29 := rfl
   rw [h1] at hf; cases hf
   have h2 : Try.f29.body = some code29 := rfl
   rw [h2] at hb; cases hb; rfl
  subst hc
  exact SoundPc.none _ _ _
 ·unfold t29 at h; split at h
  ·rfl
  ·cases h
 ·unfold t29 at h; split at h
  case h_2 => cases h
  iterate 2 (split at h; (case h_2 => cases h); rename_i hq; have hq := FT.sames_eq _ _ hq; subst hq)
  exact (e29 R K fu _ _ _ _ _).symm.trans h
def tb29 (fu : Nat) : FuncId -> Option (Bool × ToldF) := fun f => match Nat.beq f 29 with
 | true => some (false, ghG [.fzP 1 [1] ft0, .fzP 1 [3] ft1] (t29 fu))
 | false => (tb20 fu) f
theorem tb29_sound (fu : Nat) : SoundF' Try.prog (tb29 fu) := by
 intro f own told h
 unfold tb29 at h
 split at h
 ·rename_i hb
  cases h
  have := Nat.eq_of_beq_eq_true hb
  subst this
  exact ghG_sound (s29 fu)
 ·exact (tb20_sound fu) f own told h
def code27 : Code := match Try.f27.body with | some c => c | none => .skip
def Fb27 {R : Type} (fu : Nat) (AL AC : Int) (AB : List (List D)) (AA : Bool) (AK : List (List D)) (AJ : Bool) (AD AG AF AH : Int) (AE : Bool) (AI : Int) (k0 : Bool -> Option R) : Option R :=
 F24 fu AL AC AB AA AK AJ AD AG AF AH AE AI fun o_0 => bif o_0 then bif AA then bif AE then (k0 (decide (AI <= ofN AK.length))) else (k0 false) else (k0 false) else (k0 false)
def F27 {R : Type} := shut (@Fb27 R)
theorem F27_eq {R : Type} (fu : Nat) (AL AC : Int) (AB : List (List D)) (AA : Bool) (AK : List (List D)) (AJ : Bool) (AD AG AF AH : Int) (AE : Bool) (AI : Int) (k0 : Bool -> Option R) : F27 fu AL AC AB AA AK AJ AD AG AF AH AE AI k0 = Fb27 fu AL AC AB AA AK AJ AD AG AF AH AE AI k0 := by unfold F27; rw [shut_eq]
def pc27 (fu : Nat) : Nat -> Option ToldP := fun _ => none
def t27 (fu : Nat) : ToldF := fun _ args s K => match args, s with
 | [.ptr 0 0], [.obj [.int .i64 AL, .int .i64 AC, .fz zq0 AB false, .bool AA, .fz zq1 AK false, .bool AJ, .int .i64 AD, .int .i64 AG, .int .i64 AF, .int .i64 AH, .bool AE, .int .i64 AI]] => (match FT.sames zq0 ft0 with | true => (match FT.sames zq1 ft1 with | true => F27 fu AL AC AB AA AK AJ AD AG AF AH AE AI (fun o_ => K (.bool o_) [.obj [.int .i64 (AL), .int .i64 (AC), .fz ft0 (AB) false, .bool (AA), .fz ft1 (AK) false, .bool (AJ), .int .i64 (AD), .int .i64 (AG), .int .i64 (AF), .int .i64 (AH), .bool (AE), .int .i64 (AI)]]) | false => none) | false => none)
 | _, _ => none
theorem e27 (R : Type) (K : UV -> USt -> Option R) (fu : Nat) (AL AC : Int) (AB : List (List D)) (AA : Bool) (AK : List (List D)) (AJ : Bool) (AD AG AF AH : Int) (AE : Bool) (AI : Int) :
  F27 fu AL AC AB AA AK AJ AD AG AF AH AE AI (fun o_ => K (.bool o_) [.obj [.int .i64 (AL), .int .i64 (AC), .fz ft0 (AB) false, .bool (AA), .fz ft1 (AK) false, .bool (AJ), .int .i64 (AD), .int .i64 (AG), .int .i64 (AF), .int .i64 (AH), .bool (AE), .int .i64 (AI)]]) = ufun Try.prog ⟨(tb29 fu), pc27 fu⟩ 300 27 [.ptr 0 0] [.obj [.int .i64 AL, .int .i64 AC, .fz ft0 AB false, .bool AA, .fz ft1 AK false, .bool AJ, .int .i64 AD, .int .i64 AG, .int .i64 AF, .int .i64 AH, .bool AE, .int .i64 AI]] (funK 1 [.gc, .fzC 0 2 ft0, .fzC 0 4 ft1, .gc] K) := (F27_eq fu _ _ _ _ _ _ _ _ _ _ _ _ _).trans (by kernel_rfl)
theorem s27 (fu : Nat) : Tells Try.prog 27 (t27 fu) := by
 refine ufun_sound (T := ⟨(tb29 fu), pc27 fu⟩) (m := 1) (gout := [.gc, .fzC 0 2 ft0, .fzC 0 4 ft1, .gc]) (k := 300) (tb29_sound fu) (fun fn body hf hb => ?_) (fun R args s K r h => ?_) (fun R args s K r h => ?_)
 ·have hc : body = code27 := by
   have h1 : Try.prog.funcs[27]? = some Try.f27 := rfl
   rw [h1] at hf; cases hf
   have h2 : Try.f27.body = some code27 := rfl
   rw [h2] at hb; cases hb; rfl
  subst hc
  exact SoundPc.none _ _ _
 ·unfold t27 at h; split at h
  ·rfl
  ·cases h
 ·unfold t27 at h; split at h
  case h_2 => cases h
  iterate 2 (split at h; (case h_2 => cases h); rename_i hq; have hq := FT.sames_eq _ _ hq; subst hq)
  exact (e27 R K fu _ _ _ _ _ _ _ _ _ _ _ _).symm.trans h
def tb27 (fu : Nat) : FuncId -> Option (Bool × ToldF) := fun f => match Nat.beq f 27 with
 | true => some (false, ppG (ghG [.gc, .fzC 0 2 ft0, .fzC 0 4 ft1, .gc] (t27 fu)))
 | false => (tb29 fu) f
theorem tb27_sound (fu : Nat) : SoundF' Try.prog (tb27 fu) := by
 intro f own told h
 unfold tb27 at h
 split at h
 ·rename_i hb
  cases h
  have := Nat.eq_of_beq_eq_true hb
  subst this
  exact ppG_sound (ghG_sound (s27 fu))
 ·exact (tb29_sound fu) f own told h
def code33 : Code := match Try.f33.body with | some c => c | none => .skip
def Fb33 {R : Type} (fu : Nat) (AL AC : Int) (AB : List (List D)) (AA : Bool) (AK : List (List D)) (AJ : Bool) (AD AG AF AH : Int) (AE : Bool) (AI : Int) (k0 : Int -> (List (List D)) -> Option R) : Option R :=
 bif decide (0 <= AG /\ AG <= AD) && upTo AD AK.length then bif fits (part AK AG.toNat AD.toNat).length 16 then (k0 (IntKind.i64.wrap (AG + 1)) (part AK AG.toNat AD.toNat)) else none else none
def F33 {R : Type} := shut (@Fb33 R)
theorem F33_eq {R : Type} (fu : Nat) (AL AC : Int) (AB : List (List D)) (AA : Bool) (AK : List (List D)) (AJ : Bool) (AD AG AF AH : Int) (AE : Bool) (AI : Int) (k0 : Int -> (List (List D)) -> Option R) : F33 fu AL AC AB AA AK AJ AD AG AF AH AE AI k0 = Fb33 fu AL AC AB AA AK AJ AD AG AF AH AE AI k0 := by unfold F33; rw [shut_eq]
def pc33 (fu : Nat) : Nat -> Option ToldP := fun _ => none
def t33 (fu : Nat) : ToldF := fun _ args s K => match args, s with
 | [.ptr 0 0], [.obj [.int .i64 AL, .int .i64 AC, .fz zq0 AB false, .bool AA, .fz zq1 AK false, .bool AJ, .int .i64 AD, .int .i64 AG, .int .i64 AF, .int .i64 AH, .bool AE, .int .i64 AI]] => (match FT.sames zq0 ft0 with | true => (match FT.sames zq1 ft1 with | true => F33 fu AL AC AB AA AK AJ AD AG AF AH AE AI (fun o_ o_1 => K (.tuple [.int .i64 o_, .own 1]) [.obj [.int .i64 (AL), .int .i64 (AC), .fz ft0 (AB) false, .bool (AA), .fz ft1 (AK) false, .bool (AJ), .int .i64 (AD), .int .i64 (AD), .int .i64 (AF), .int .i64 (AH), .bool (AE), .int .i64 (AI)], .row ft1 o_1]) | false => none) | false => none)
 | _, _ => none
theorem e33 (R : Type) (K : UV -> USt -> Option R) (fu : Nat) (AL AC : Int) (AB : List (List D)) (AA : Bool) (AK : List (List D)) (AJ : Bool) (AD AG AF AH : Int) (AE : Bool) (AI : Int) :
  F33 fu AL AC AB AA AK AJ AD AG AF AH AE AI (fun o_ o_1 => K (.tuple [.int .i64 o_, .own 1]) [.obj [.int .i64 (AL), .int .i64 (AC), .fz ft0 (AB) false, .bool (AA), .fz ft1 (AK) false, .bool (AJ), .int .i64 (AD), .int .i64 (AD), .int .i64 (AF), .int .i64 (AH), .bool (AE), .int .i64 (AI)], .row ft1 o_1]) = ufun Try.prog ⟨(tb27 fu), pc33 fu⟩ 300 33 [.ptr 0 0] [.obj [.int .i64 AL, .int .i64 AC, .fz ft0 AB false, .bool AA, .fz ft1 AK false, .bool AJ, .int .i64 AD, .int .i64 AG, .int .i64 AF, .int .i64 AH, .bool AE, .int .i64 AI]] (funK 1 [.gc, .fzC 0 2 ft0, .fzC 0 4 ft1, .gc] K) := (F33_eq fu _ _ _ _ _ _ _ _ _ _ _ _ _).trans (by kernel_rfl)
theorem s33 (fu : Nat) : Tells Try.prog 33 (t33 fu) := by
 refine ufun_sound (T := ⟨(tb27 fu), pc33 fu⟩) (m := 1) (gout := [.gc, .fzC 0 2 ft0, .fzC 0 4 ft1, .gc]) (k := 300) (tb27_sound fu) (fun fn body hf hb => ?_) (fun R args s K r h => ?_) (fun R args s K r h => ?_)
 ·have hc : body = code33 := by
   have h1 : Try.prog.funcs[33]? = some Try.f33 := rfl
   rw [h1] at hf; cases hf
   have h2 : Try.f33.body = some code33 := rfl
   rw [h2] at hb; cases hb; rfl
  subst hc
  exact SoundPc.none _ _ _
 ·unfold t33 at h; split at h
  ·rfl
  ·cases h
 ·unfold t33 at h; split at h
  case h_2 => cases h
  iterate 2 (split at h; (case h_2 => cases h); rename_i hq; have hq := FT.sames_eq _ _ hq; subst hq)
  exact (e33 R K fu _ _ _ _ _ _ _ _ _ _ _ _).symm.trans h
def tb33 (fu : Nat) : FuncId -> Option (Bool × ToldF) := fun f => match Nat.beq f 33 with
 | true => some (false, ppG (ghG [.gc, .fzC 0 2 ft0, .fzC 0 4 ft1, .gc] (t33 fu)))
 | false => (tb27 fu) f
theorem tb33_sound (fu : Nat) : SoundF' Try.prog (tb33 fu) := by
 intro f own told h
 unfold tb33 at h
 split at h
 ·rename_i hb
  cases h
  have := Nat.eq_of_beq_eq_true hb
  subst this
  exact ppG_sound (ghG_sound (s33 fu))
 ·exact (tb27_sound fu) f own told h
abbrev ft5 : List FT := [FT.int IntKind.i64, FT.int IntKind.i64, FT.int IntKind.i64, FT.int IntKind.i64, FT.int IntKind.i64, FT.int IntKind.i64, FT.bool, FT.str]
def code48 : Code := match Try.f48.body with | some c => c | none => .skip
def Fb48 {R : Type} (fu : Nat) (index : Int) (has : Bool) (AL AC : Int) (AB : List (List D)) (AA : Bool) (AK : List (List D)) (AJ : Bool) (AD AG AF AH : Int) (AE : Bool) (AI : Int) (k0 : (List (List D)) -> Option R) : Option R :=
 F26 fu [D.int AC, D.row AB, D.bool AA] AL fun o_0 => bif decide (o_0 < 0) then (k0 []) else bif has then bif within index AK.length then (k0 ([[D.int 0, D.int AL, D.int o_0, D.int AC, D.int index, D.int AH, D.bool has, D.str (cell 0 (elem index.toNat AK)).toStr]])) else none else (k0 ([[D.int 0, D.int AL, D.int o_0, D.int AC, D.int index, D.int AH, D.bool has, D.str (ByteArray.mk #[])]]))
def F48 {R : Type} := shut (@Fb48 R)
theorem F48_eq {R : Type} (fu : Nat) (index : Int) (has : Bool) (AL AC : Int) (AB : List (List D)) (AA : Bool) (AK : List (List D)) (AJ : Bool) (AD AG AF AH : Int) (AE : Bool) (AI : Int) (k0 : (List (List D)) -> Option R) : F48 fu index has AL AC AB AA AK AJ AD AG AF AH AE AI k0 = Fb48 fu index has AL AC AB AA AK AJ AD AG AF AH AE AI k0 := by unfold F48; rw [shut_eq]
def pc48 (fu : Nat) : Nat -> Option ToldP := fun _ => none
def t48 (fu : Nat) : ToldF := fun _ args s K => match args, s with
 | [.ptr 0 0, .int .i64 index, .bool has], [.obj [.int .i64 AL, .int .i64 AC, .fz zq0 AB false, .bool AA, .fz zq1 AK false, .bool AJ, .int .i64 AD, .int .i64 AG, .int .i64 AF, .int .i64 AH, .bool AE, .int .i64 AI]] => (match FT.sames zq0 ft0 with | true => (match FT.sames zq1 ft1 with | true => F48 fu index has AL AC AB AA AK AJ AD AG AF AH AE AI (fun o_ => K (.own 1) [.obj [.int .i64 (AL), .int .i64 (AC), .fz ft0 (AB) false, .bool (AA), .fz ft1 (AK) false, .bool (AJ), .int .i64 (AD), .int .i64 (AG), .int .i64 (AF), .int .i64 (AH), .bool (AE), .int .i64 (AI)], .row ft5 o_]) | false => none) | false => none)
 | _, _ => none
theorem e48 (R : Type) (K : UV -> USt -> Option R) (fu : Nat) (index : Int) (has : Bool) (AL AC : Int) (AB : List (List D)) (AA : Bool) (AK : List (List D)) (AJ : Bool) (AD AG AF AH : Int) (AE : Bool) (AI : Int) :
  F48 fu index has AL AC AB AA AK AJ AD AG AF AH AE AI (fun o_ => K (.own 1) [.obj [.int .i64 (AL), .int .i64 (AC), .fz ft0 (AB) false, .bool (AA), .fz ft1 (AK) false, .bool (AJ), .int .i64 (AD), .int .i64 (AG), .int .i64 (AF), .int .i64 (AH), .bool (AE), .int .i64 (AI)], .row ft5 o_]) = ufun Try.prog ⟨(tb33 fu), pc48 fu⟩ 300 48 [.ptr 0 0, .int .i64 index, .bool has] [.obj [.int .i64 AL, .int .i64 AC, .fz ft0 AB false, .bool AA, .fz ft1 AK false, .bool AJ, .int .i64 AD, .int .i64 AG, .int .i64 AF, .int .i64 AH, .bool AE, .int .i64 AI]] (funK 1 [.ownP 0 [] ft5, .gc, .fzC 0 2 ft0, .fzC 0 4 ft1, .gc] K) := (F48_eq fu _ _ _ _ _ _ _ _ _ _ _ _ _ _ _).trans (by kernel_rfl)
theorem s48 (fu : Nat) : Tells Try.prog 48 (t48 fu) := by
 refine ufun_sound (T := ⟨(tb33 fu), pc48 fu⟩) (m := 1) (gout := [.ownP 0 [] ft5, .gc, .fzC 0 2 ft0, .fzC 0 4 ft1, .gc]) (k := 300) (tb33_sound fu) (fun fn body hf hb => ?_) (fun R args s K r h => ?_) (fun R args s K r h => ?_)
 ·have hc : body = code48 := by
   have h1 : Try.prog.funcs[48]? = some Try.f48 := rfl
   rw [h1] at hf; cases hf
   have h2 : Try.f48.body = some code48 := rfl
   rw [h2] at hb; cases hb; rfl
  subst hc
  exact SoundPc.none _ _ _
 ·unfold t48 at h; split at h
  ·rfl
  ·cases h
 ·unfold t48 at h; split at h
  case h_2 => cases h
  iterate 2 (split at h; (case h_2 => cases h); rename_i hq; have hq := FT.sames_eq _ _ hq; subst hq)
  exact (e48 R K fu _ _ _ _ _ _ _ _ _ _ _ _ _ _).symm.trans h
def tb48 (fu : Nat) : FuncId -> Option (Bool × ToldF) := fun f => match Nat.beq f 48 with
 | true => some (false, ppG (ghG [.gc, .fzC 0 2 ft0, .fzC 0 4 ft1, .gc] (t48 fu)))
 | false => (tb33 fu) f
theorem tb48_sound (fu : Nat) : SoundF' Try.prog (tb48 fu) := by
 intro f own told h
 unfold tb48 at h
 split at h
 ·rename_i hb
  cases h
  have := Nat.eq_of_beq_eq_true hb
  subst this
  exact ppG_sound (ghG_sound (s48 fu))
 ·exact (tb33_sound fu) f own told h
def code31 : Code := match Try.f31.body with | some c => c | none => .skip
theorem a31_122 : codeAt code31 122 = some (.loop (loopBody (codeAt code31 122))) := by kernel_rfl
def F31_122 {R : Type} (fu : Nat) (r r1 : Int) (r2 : List (List D)) (r3 : Bool) (r4 : List (List D)) (r5 : Bool) (r6 r7 r8 r9 : Int) (r10 : Bool) (r11 : Int) : Nat -> Int -> (List (List D)) -> ((List (List D)) -> Option R) -> Option R
 | 0, _, _, _ => none
 | n + 1, k_, out, k0 => bif decide (k_ < ofN r4.length) then bif decide (k_ < IntKind.i64.wrap (r8 + 8)) then F48 fu k_ true r r1 r2 r3 r4 r5 r6 r7 r8 r9 r10 r11 fun o_0 => bif fits (out.length + o_0.length) 72 then (F31_122 fu r r1 r2 r3 r4 r5 r6 r7 r8 r9 r10 r11 n (IntKind.i64.wrap (k_ + 1)) (out ++ o_0) k0) else none else (k0 out) else (k0 out)
def t31_122 (fu n : Nat) : ToldP := fun _ e s K => match e, s with
 | [.ptr 0 0, .own 1, .int .i64 k_], [.obj [.int .i64 r, .int .i64 r1, .fz zq0 r2 false, .bool r3, .fz zq1 r4 false, .bool r5, .int .i64 r6, .int .i64 r7, .int .i64 r8, .int .i64 r9, .bool r10, .int .i64 r11], .row zq2 out] => (match FT.sames zq0 ft0 with | true => (match FT.sames zq1 ft1 with | true => (match FT.sames zq2 ft5 with | true => F31_122 fu r r1 r2 r3 r4 r5 r6 r7 r8 r9 r10 r11 n k_ out (fun o_ => K (.exit 0) (unpackM (bitsM 4 0x9) [.ptr 0 0, .own 1]) [.obj [.int .i64 (r), .int .i64 (r1), .fz ft0 (r2) false, .bool (r3), .fz ft1 (r4) false, .bool (r5), .int .i64 (r6), .int .i64 (r7), .int .i64 (r8), .int .i64 (r9), .bool (r10), .int .i64 (r11)], .row ft5 o_]) | false => none) | false => none) | false => none)
 | _, _ => none
def pc31_122 (fu : Nat) : Nat -> Option ToldP := fun _ => none
theorem e31_122 (fu n : Nat) (R : Type) (K : VExit -> UEnv -> USt -> Option R) (k_ r r1 : Int) (r2 : List (List D)) (r3 : Bool) (r4 : List (List D)) (r5 : Bool) (r6 r7 r8 r9 : Int) (r10 : Bool) (r11 : Int) (out : List (List D)) :
  F31_122 fu r r1 r2 r3 r4 r5 r6 r7 r8 r9 r10 r11 (n + 1) k_ out (fun o_ => K (.exit 0) (unpackM (bitsM 4 0x9) [.ptr 0 0, .own 1]) [.obj [.int .i64 (r), .int .i64 (r1), .fz ft0 (r2) false, .bool (r3), .fz ft1 (r4) false, .bool (r5), .int .i64 (r6), .int .i64 (r7), .int .i64 (r8), .int .i64 (r9), .bool (r10), .int .i64 (r11)], .row ft5 o_]) = uexec Try.prog (tb48 fu) 300 (pc31_122 fu) 244 (loopBody (codeAt code31 122)) (unpackM (bitsM 5 0x19) [.ptr 0 0, .own 1, .int .i64 k_]) [.obj [.int .i64 r, .int .i64 r1, .fz ft0 r2 false, .bool r3, .fz ft1 r4 false, .bool r5, .int .i64 r6, .int .i64 r7, .int .i64 r8, .int .i64 r9, .bool r10, .int .i64 r11], .row ft5 out] (loopK 1 [.live (bitsM 5 0x19), .ownP 3 [] ft5, .gc] [.live (bitsM 4 0xd), .gc] (pkP (bitsM 5 0x19) (t31_122 fu n)) K) := by kernel_rfl
theorem p31_122 (fu : Nat) : SoundPc Try.prog 1 code31 (pc31_122 fu) := SoundPc.none _ _ _
theorem s31_122 (fu : Nat) : ∀ n, SoundP Try.prog 1 (.loop (loopBody (codeAt code31 122))) (pkP (bitsM 5 0x19) (t31_122 fu n)) := by
 refine loopP_sound (gin := [.live (bitsM 5 0x19), .ownP 3 [] ft5, .gc]) (gout := [.live (bitsM 4 0xd), .gc]) (k := 300) (tb48_sound fu) (p31_122 fu) (by decide) a31_122 (fun R e s K => ?_) (fun n R e s K r h => ?_)
 ·unfold t31_122; repeat' split
  all_goals rfl
 ·unfold t31_122 at h; split at h
  case h_2 => cases h
  iterate 3 (split at h; (case h_2 => cases h); rename_i hq; have hq := FT.sames_eq _ _ hq; subst hq)
  exact (e31_122 fu n R K _ _ _ _ _ _ _ _ _ _ _ _ _ _).symm.trans h
def Fb31 {R : Type} (fu : Nat) (AL AC : Int) (AB : List (List D)) (AA : Bool) (AK : List (List D)) (AJ : Bool) (AD AG AF AH : Int) (AE : Bool) (AI : Int) (k0 : (List (List D)) -> Option R) : Option R :=
 bif !AJ then (k0 []) else F31_122 fu AL AC AB AA AK AJ AD AG AF AH AE AI fu AF [] fun o_0 => bif decide (0 < ofN o_0.length) then (k0 o_0) else F48 fu (ofN AK.length) false AL AC AB AA AK AJ AD AG AF AH AE AI fun o_1 => (k0 o_1)
def F31 {R : Type} := shut (@Fb31 R)
theorem F31_eq {R : Type} (fu : Nat) (AL AC : Int) (AB : List (List D)) (AA : Bool) (AK : List (List D)) (AJ : Bool) (AD AG AF AH : Int) (AE : Bool) (AI : Int) (k0 : (List (List D)) -> Option R) : F31 fu AL AC AB AA AK AJ AD AG AF AH AE AI k0 = Fb31 fu AL AC AB AA AK AJ AD AG AF AH AE AI k0 := by unfold F31; rw [shut_eq]
def pc31 (fu : Nat) : Nat -> Option ToldP := fun p => match Nat.beq p 122 with | true => some (ghP 1 [.live (bitsM 5 0x19), .ownP 3 [] ft5, .gc] (pkP (bitsM 5 0x19) (t31_122 fu fu))) | false => none
def t31 (fu : Nat) : ToldF := fun _ args s K => match args, s with
 | [.ptr 0 0], [.obj [.int .i64 AL, .int .i64 AC, .fz zq0 AB false, .bool AA, .fz zq1 AK false, .bool AJ, .int .i64 AD, .int .i64 AG, .int .i64 AF, .int .i64 AH, .bool AE, .int .i64 AI]] => (match FT.sames zq0 ft0 with | true => (match FT.sames zq1 ft1 with | true => F31 fu AL AC AB AA AK AJ AD AG AF AH AE AI (fun o_ => K (.own 1) [.obj [.int .i64 (AL), .int .i64 (AC), .fz ft0 (AB) false, .bool (AA), .fz ft1 (AK) false, .bool (AJ), .int .i64 (AD), .int .i64 (AG), .int .i64 (AF), .int .i64 (AH), .bool (AE), .int .i64 (AI)], .row ft5 o_]) | false => none) | false => none)
 | _, _ => none
theorem e31 (R : Type) (K : UV -> USt -> Option R) (fu : Nat) (AL AC : Int) (AB : List (List D)) (AA : Bool) (AK : List (List D)) (AJ : Bool) (AD AG AF AH : Int) (AE : Bool) (AI : Int) :
  F31 fu AL AC AB AA AK AJ AD AG AF AH AE AI (fun o_ => K (.own 1) [.obj [.int .i64 (AL), .int .i64 (AC), .fz ft0 (AB) false, .bool (AA), .fz ft1 (AK) false, .bool (AJ), .int .i64 (AD), .int .i64 (AG), .int .i64 (AF), .int .i64 (AH), .bool (AE), .int .i64 (AI)], .row ft5 o_]) = ufun Try.prog ⟨(tb48 fu), pc31 fu⟩ 300 31 [.ptr 0 0] [.obj [.int .i64 AL, .int .i64 AC, .fz ft0 AB false, .bool AA, .fz ft1 AK false, .bool AJ, .int .i64 AD, .int .i64 AG, .int .i64 AF, .int .i64 AH, .bool AE, .int .i64 AI]] (funK 1 [.ownP 0 [] ft5, .gc, .fzC 0 2 ft0, .fzC 0 4 ft1, .gc] K) := (F31_eq fu _ _ _ _ _ _ _ _ _ _ _ _ _).trans (by kernel_rfl)
theorem s31 (fu : Nat) : Tells Try.prog 31 (t31 fu) := by
 refine ufun_sound (T := ⟨(tb48 fu), pc31 fu⟩) (m := 1) (gout := [.ownP 0 [] ft5, .gc, .fzC 0 2 ft0, .fzC 0 4 ft1, .gc]) (k := 300) (tb48_sound fu) (fun fn body hf hb => ?_) (fun R args s K r h => ?_) (fun R args s K r h => ?_)
 ·have hc : body = code31 := by
   have h1 : Try.prog.funcs[31]? = some Try.f31 := rfl
   rw [h1] at hf; cases hf
   have h2 : Try.f31.body = some code31 := rfl
   rw [h2] at hb; cases hb; rfl
  subst hc
  exact fun p told h b hb => by
   replace h : pc31 fu p = some told := h
   unfold pc31 at h
   split at h
   ·rename_i hp
    cases h
    have := Nat.eq_of_beq_eq_true hp
    subst this
    rw [a31_122] at hb
    cases hb
    exact ghP_sound (s31_122 fu _)
   ·
    cases h

 ·unfold t31 at h; split at h
  ·rfl
  ·cases h
 ·unfold t31 at h; split at h
  case h_2 => cases h
  iterate 2 (split at h; (case h_2 => cases h); rename_i hq; have hq := FT.sames_eq _ _ hq; subst hq)
  exact (e31 R K fu _ _ _ _ _ _ _ _ _ _ _ _).symm.trans h
def tb31 (fu : Nat) : FuncId -> Option (Bool × ToldF) := fun f => match Nat.beq f 31 with
 | true => some (false, ppG (ghG [.gc, .fzC 0 2 ft0, .fzC 0 4 ft1, .gc] (t31 fu)))
 | false => (tb48 fu) f
theorem tb31_sound (fu : Nat) : SoundF' Try.prog (tb31 fu) := by
 intro f own told h
 unfold tb31 at h
 split at h
 ·rename_i hb
  cases h
  have := Nat.eq_of_beq_eq_true hb
  subst this
  exact ppG_sound (ghG_sound (s31 fu))
 ·exact (tb48_sound fu) f own told h
def code32 : Code := match Try.f32.body with | some c => c | none => .skip
theorem a32_15 : codeAt code32 15 = some (pieceOf (codeAt code32 15)) := by kernel_rfl
theorem a32_491 : codeAt code32 491 = some (pieceOf (codeAt code32 491)) := by kernel_rfl
def F32_491 {R : Type} (fu : Nat) (x : Bool) (r4 : List (List D)) (r6 r7 : Int) (k0 : (List (List D)) -> Int -> Int -> Option R) : Option R :=
 bif x then (k0 [] 0 0) else (k0 r4 r6 r7)
def t32_491 (fu : Nat) : ToldP := fun _ e s K => match e, s with
 | [.ptr 0 0, .ptr 1 0, .bool was, .bool x], [.obj [.int .i64 r, .int .i64 r1, .fz zq0 r2 false, .bool r3, .fz zq1 r4 false, .bool r5, .int .i64 r6, .int .i64 r7, .int .i64 r8, .int .i64 r9, .bool r10, .int .i64 r11], .obj [.int .i64 c, .fz zq2 c1 false, .bool c2]] => (match FT.sames zq0 ft0 with | true => (match FT.sames zq1 ft1 with | true => (match FT.sames zq2 ft0 with | true => F32_491 fu x r4 r6 r7 (fun o_ o_1 o_2 => K .normal (unpackM (bitsM 6 0x29) [.ptr 0 0, .ptr 1 0, .bool (was)]) [.obj [.int .i64 (r), .int .i64 (r1), .fz ft0 (r2) false, .bool (r3), .fz ft1 o_ false, .bool (r5), .int .i64 o_1, .int .i64 o_2, .int .i64 (r8), .int .i64 (r9), .bool (r10), .int .i64 (r11)], .obj [.int .i64 (c), .fz ft0 (c1) false, .bool (c2)]]) | false => none) | false => none) | false => none)
 | _, _ => none
def pc32_491 (fu : Nat) : Nat -> Option ToldP := fun _ => none
theorem e32_491 (fu : Nat) (R : Type) (K : VExit -> UEnv -> USt -> Option R) (was x : Bool) (r r1 : Int) (r2 : List (List D)) (r3 : Bool) (r4 : List (List D)) (r5 : Bool) (r6 r7 r8 r9 : Int) (r10 : Bool) (r11 c : Int) (c1 : List (List D)) (c2 : Bool) :
  F32_491 fu x r4 r6 r7 (fun o_ o_1 o_2 => K .normal (unpackM (bitsM 6 0x29) [.ptr 0 0, .ptr 1 0, .bool (was)]) [.obj [.int .i64 (r), .int .i64 (r1), .fz ft0 (r2) false, .bool (r3), .fz ft1 o_ false, .bool (r5), .int .i64 o_1, .int .i64 o_2, .int .i64 (r8), .int .i64 (r9), .bool (r10), .int .i64 (r11)], .obj [.int .i64 (c), .fz ft0 (c1) false, .bool (c2)]]) = uexec Try.prog (tb31 fu) 300 (pc32_491 fu) 491 (pieceOf (codeAt code32 491)) (unpackM (bitsM 47 0x400000000029) [.ptr 0 0, .ptr 1 0, .bool was, .bool x]) [.obj [.int .i64 r, .int .i64 r1, .fz ft0 r2 false, .bool r3, .fz ft1 r4 false, .bool r5, .int .i64 r6, .int .i64 r7, .int .i64 r8, .int .i64 r9, .bool r10, .int .i64 r11], .obj [.int .i64 c, .fz ft0 c1 false, .bool c2]] (ghK 1 [.live (bitsM 6 0x39), .gc, .fzC 0 4 ft1, .gc] K) := by kernel_rfl
theorem p32_491 (fu : Nat) : SoundPc Try.prog 1 code32 (pc32_491 fu) := SoundPc.none _ _ _
theorem s32_491 (fu : Nat) : SoundP Try.prog 1 (pieceOf (codeAt code32 491)) (pkP (bitsM 47 0x400000000029) (t32_491 fu)) := by
 refine pieceP_sound (gout := [.live (bitsM 6 0x39), .gc, .fzC 0 4 ft1, .gc]) (k := 300) (tb31_sound fu) (p32_491 fu) (by decide) a32_491 (fun R e s K r h => ?_)
 unfold t32_491 at h; split at h
 case h_2 => cases h
 iterate 3 (split at h; (case h_2 => cases h); rename_i hq; have hq := FT.sames_eq _ _ hq; subst hq)
 exact (e32_491 fu R K _ _ _ _ _ _ _ _ _ _ _ _ _ _ _ _ _).symm.trans h
theorem a32_63 : codeAt code32 63 = some (pieceOf (codeAt code32 63)) := by kernel_rfl
theorem a32_511 : codeAt code32 511 = some (pieceOf (codeAt code32 511)) := by kernel_rfl
def F32_511 {R : Type} (fu : Nat) (was : Bool) (r r1 : Int) (r2 : List (List D)) (r3 : Bool) (r4 : List (List D)) (r5 : Bool) (r6 r7 r8 r9 : Int) (r10 : Bool) (r11 : Int) (k0 : Int -> Int -> Bool -> Int -> (List (List D)) -> Option R) : Option R :=
 bif !was then F31 fu r r1 r2 r3 r4 r5 r6 r7 0 (ofN r4.length) false 0 fun o_0 => (k0 0 (ofN r4.length) false 0 o_0) else F31 fu r r1 r2 r3 r4 r5 r6 r7 r8 r9 r10 r11 fun o_1 => (k0 r8 r9 r10 r11 o_1)
def t32_511 (fu : Nat) : ToldP := fun _ e s K => match e, s with
 | [.ptr 0 0, .bool was], [.obj [.int .i64 r, .int .i64 r1, .fz zq0 r2 false, .bool r3, .fz zq1 r4 false, .bool r5, .int .i64 r6, .int .i64 r7, .int .i64 r8, .int .i64 r9, .bool r10, .int .i64 r11]] => (match FT.sames zq0 ft0 with | true => (match FT.sames zq1 ft1 with | true => F32_511 fu was r r1 r2 r3 r4 r5 r6 r7 r8 r9 r10 r11 (fun o_ o_1 o_2 o_3 o_4 => K .ret (unpackM (bitsM 5 0x10) [.own 1]) [.obj [.int .i64 (r), .int .i64 (r1), .fz ft0 (r2) false, .bool (r3), .fz ft1 (r4) false, .bool (r5), .int .i64 (r6), .int .i64 (r7), .int .i64 o_, .int .i64 o_1, .bool o_2, .int .i64 o_3], .row ft5 o_4]) | false => none) | false => none)
 | _, _ => none
def pc32_511 (fu : Nat) : Nat -> Option ToldP := fun _ => none
theorem e32_511 (fu : Nat) (R : Type) (K : VExit -> UEnv -> USt -> Option R) (was : Bool) (r r1 : Int) (r2 : List (List D)) (r3 : Bool) (r4 : List (List D)) (r5 : Bool) (r6 r7 r8 r9 : Int) (r10 : Bool) (r11 : Int) :
  F32_511 fu was r r1 r2 r3 r4 r5 r6 r7 r8 r9 r10 r11 (fun o_ o_1 o_2 o_3 o_4 => K .ret (unpackM (bitsM 5 0x10) [.own 1]) [.obj [.int .i64 (r), .int .i64 (r1), .fz ft0 (r2) false, .bool (r3), .fz ft1 (r4) false, .bool (r5), .int .i64 (r6), .int .i64 (r7), .int .i64 o_, .int .i64 o_1, .bool o_2, .int .i64 o_3], .row ft5 o_4]) = uexec Try.prog (tb31 fu) 300 (pc32_511 fu) 511 (pieceOf (codeAt code32 511)) (unpackM (bitsM 6 0x21) [.ptr 0 0, .bool was]) [.obj [.int .i64 r, .int .i64 r1, .fz ft0 r2 false, .bool r3, .fz ft1 r4 false, .bool r5, .int .i64 r6, .int .i64 r7, .int .i64 r8, .int .i64 r9, .bool r10, .int .i64 r11]] (ghK 1 [.live (bitsM 5 0x10), .gc] K) := by kernel_rfl
theorem p32_511 (fu : Nat) : SoundPc Try.prog 1 code32 (pc32_511 fu) := SoundPc.none _ _ _
theorem s32_511 (fu : Nat) : SoundP Try.prog 1 (pieceOf (codeAt code32 511)) (pkP (bitsM 6 0x21) (t32_511 fu)) := by
 refine pieceP_sound (gout := [.live (bitsM 5 0x10), .gc]) (k := 300) (tb31_sound fu) (p32_511 fu) (by decide) a32_511 (fun R e s K r h => ?_)
 unfold t32_511 at h; split at h
 case h_2 => cases h
 iterate 2 (split at h; (case h_2 => cases h); rename_i hq; have hq := FT.sames_eq _ _ hq; subst hq)
 exact (e32_511 fu R K _ _ _ _ _ _ _ _ _ _ _ _ _).symm.trans h
def F32_63 {R : Type} (fu : Nat) (was : Bool) (r r1 : Int) (r2 : List (List D)) (r3 : Bool) (r4 : List (List D)) (r6 r7 r8 r9 : Int) (r10 : Bool) (r11 : Int) (k0 : Bool -> Int -> Int -> Int -> Bool -> Int -> (List (List D)) -> Option R) : Option R :=
 F22 fu [D.int r1, D.row r2, D.bool r3] r fun o_0 => bif !decide (0 <= o_0) then (k0 (decide (0 <= o_0)) r6 r8 r9 r10 r11 []) else F24 fu r r1 r2 r3 r4 (decide (0 <= o_0)) r6 r7 r8 r9 r10 r11 fun o_1 => bif o_1 then F32_511 fu was r r1 r2 r3 r4 (decide (0 <= o_0)) (ofN r4.length) r7 r8 r9 r10 r11 fun o_2 o_3 o_4 o_5 o_6 => (k0 (decide (0 <= o_0)) (ofN r4.length) o_2 o_3 o_4 o_5 o_6) else F32_511 fu was r r1 r2 r3 r4 (decide (0 <= o_0)) r6 r7 r8 r9 r10 r11 fun o_7 o_8 o_9 o_10 o_11 => (k0 (decide (0 <= o_0)) r6 o_7 o_8 o_9 o_10 o_11)
def t32_63 (fu : Nat) : ToldP := fun _ e s K => match e, s with
 | [.ptr 0 0, .bool was], [.obj [.int .i64 r, .int .i64 r1, .fz zq0 r2 false, .bool r3, .fz zq1 r4 false, .bool r5, .int .i64 r6, .int .i64 r7, .int .i64 r8, .int .i64 r9, .bool r10, .int .i64 r11]] => (match FT.sames zq0 ft0 with | true => (match FT.sames zq1 ft1 with | true => F32_63 fu was r r1 r2 r3 r4 r6 r7 r8 r9 r10 r11 (fun o_ o_1 o_2 o_3 o_4 o_5 o_6 => K .ret (unpackM (bitsM 5 0x10) [.own 1]) [.obj [.int .i64 (r), .int .i64 (r1), .fz ft0 (r2) false, .bool (r3), .fz ft1 (r4) false, .bool o_, .int .i64 o_1, .int .i64 (r7), .int .i64 o_2, .int .i64 o_3, .bool o_4, .int .i64 o_5], .row ft5 o_6]) | false => none) | false => none)
 | _, _ => none
def pc32_63 (fu : Nat) : Nat -> Option ToldP := fun p => match Nat.beq p 511 with | true => some (ghP 1 [.live (bitsM 6 0x21), .gc] (pkP (bitsM 6 0x21) (t32_511 fu))) | false => none
theorem e32_63 (fu : Nat) (R : Type) (K : VExit -> UEnv -> USt -> Option R) (was : Bool) (r r1 : Int) (r2 : List (List D)) (r3 : Bool) (r4 : List (List D)) (r5 : Bool) (r6 r7 r8 r9 : Int) (r10 : Bool) (r11 : Int) :
  F32_63 fu was r r1 r2 r3 r4 r6 r7 r8 r9 r10 r11 (fun o_ o_1 o_2 o_3 o_4 o_5 o_6 => K .ret (unpackM (bitsM 5 0x10) [.own 1]) [.obj [.int .i64 (r), .int .i64 (r1), .fz ft0 (r2) false, .bool (r3), .fz ft1 (r4) false, .bool o_, .int .i64 o_1, .int .i64 (r7), .int .i64 o_2, .int .i64 o_3, .bool o_4, .int .i64 o_5], .row ft5 o_6]) = uexec Try.prog (tb31 fu) 300 (pc32_63 fu) 63 (pieceOf (codeAt code32 63)) (unpackM (bitsM 6 0x21) [.ptr 0 0, .bool was]) [.obj [.int .i64 r, .int .i64 r1, .fz ft0 r2 false, .bool r3, .fz ft1 r4 false, .bool r5, .int .i64 r6, .int .i64 r7, .int .i64 r8, .int .i64 r9, .bool r10, .int .i64 r11]] (ghK 1 [.live (bitsM 5 0x10), .ownP 4 [] ft5, .gc] K) := by kernel_rfl
theorem p32_63 (fu : Nat) : SoundPc Try.prog 1 code32 (pc32_63 fu) := fun p told h b hb => by
 replace h : pc32_63 fu p = some told := h
 unfold pc32_63 at h
 split at h
 ·rename_i hp
  cases h
  have := Nat.eq_of_beq_eq_true hp
  subst this
  rw [a32_511] at hb
  cases hb
  exact ghP_sound (s32_511 fu)
 ·
  cases h
theorem s32_63 (fu : Nat) : SoundP Try.prog 1 (pieceOf (codeAt code32 63)) (pkP (bitsM 6 0x21) (t32_63 fu)) := by
 refine pieceP_sound (gout := [.live (bitsM 5 0x10), .ownP 4 [] ft5, .gc]) (k := 300) (tb31_sound fu) (p32_63 fu) (by decide) a32_63 (fun R e s K r h => ?_)
 unfold t32_63 at h; split at h
 case h_2 => cases h
 iterate 2 (split at h; (case h_2 => cases h); rename_i hq; have hq := FT.sames_eq _ _ hq; subst hq)
 exact (e32_63 fu R K _ _ _ _ _ _ _ _ _ _ _ _ _).symm.trans h
def F32_15 {R : Type} (fu : Nat) (was : Bool) (r r1 : Int) (r2 : List (List D)) (r3 : Bool) (r4 : List (List D)) (r5 : Bool) (r6 r7 r8 r9 : Int) (r10 : Bool) (r11 c : Int) (c1 : List (List D)) (c2 : Bool) (k0 : Int -> (List (List D)) -> Bool -> (List (List D)) -> Bool -> Int -> Int -> Int -> Int -> Bool -> Int -> (List (List D)) -> Option R) : Option R :=
 bif decide (r1 < c) then F41 fu [D.int c, D.row c1, D.bool c2] fun o_0 => F43 fu r (cell 0 o_0).toInt (cell 1 o_0).toRows (cell 2 o_0).toBool r4 r5 r6 r7 r8 r9 r10 r11 fun o_1 => bif o_1 then F32_491 fu c2 r4 r6 r7 fun o_2 o_3 o_4 => bif (cell 2 o_0).toBool then F32_63 fu was r (cell 0 o_0).toInt (cell 1 o_0).toRows c2 o_2 o_3 o_4 r8 r9 r10 r11 fun o_5 o_6 o_7 o_8 o_9 o_10 o_11 => (k0 ((cell 0 o_0).toInt) ((cell 1 o_0).toRows) c2 o_2 o_5 o_6 o_4 o_7 o_8 o_9 o_10 o_11) else F32_63 fu was r (cell 0 o_0).toInt (cell 1 o_0).toRows false o_2 o_3 o_4 r8 r9 r10 r11 fun o_12 o_13 o_14 o_15 o_16 o_17 o_18 => (k0 ((cell 0 o_0).toInt) ((cell 1 o_0).toRows) false o_2 o_12 o_13 o_4 o_14 o_15 o_16 o_17 o_18) else F32_491 fu false r4 r6 r7 fun o_19 o_20 o_21 => bif (cell 2 o_0).toBool then F32_63 fu was r (cell 0 o_0).toInt (cell 1 o_0).toRows c2 o_19 o_20 o_21 r8 r9 r10 r11 fun o_22 o_23 o_24 o_25 o_26 o_27 o_28 => (k0 ((cell 0 o_0).toInt) ((cell 1 o_0).toRows) c2 o_19 o_22 o_23 o_21 o_24 o_25 o_26 o_27 o_28) else F32_63 fu was r (cell 0 o_0).toInt (cell 1 o_0).toRows false o_19 o_20 o_21 r8 r9 r10 r11 fun o_29 o_30 o_31 o_32 o_33 o_34 o_35 => (k0 ((cell 0 o_0).toInt) ((cell 1 o_0).toRows) false o_19 o_29 o_30 o_21 o_31 o_32 o_33 o_34 o_35) else bif r3 then F32_63 fu was r r1 r2 c2 r4 r6 r7 r8 r9 r10 r11 fun o_36 o_37 o_38 o_39 o_40 o_41 o_42 => (k0 r1 r2 c2 r4 o_36 o_37 r7 o_38 o_39 o_40 o_41 o_42) else F32_63 fu was r r1 r2 false r4 r6 r7 r8 r9 r10 r11 fun o_43 o_44 o_45 o_46 o_47 o_48 o_49 => (k0 r1 r2 false r4 o_43 o_44 r7 o_45 o_46 o_47 o_48 o_49)
def t32_15 (fu : Nat) : ToldP := fun _ e s K => match e, s with
 | [.ptr 0 0, .ptr 1 0, .bool was], [.obj [.int .i64 r, .int .i64 r1, .fz zq0 r2 false, .bool r3, .fz zq1 r4 false, .bool r5, .int .i64 r6, .int .i64 r7, .int .i64 r8, .int .i64 r9, .bool r10, .int .i64 r11], .obj [.int .i64 c, .fz zq2 c1 false, .bool c2]] => (match FT.sames zq0 ft0 with | true => (match FT.sames zq1 ft1 with | true => (match FT.sames zq2 ft0 with | true => F32_15 fu was r r1 r2 r3 r4 r5 r6 r7 r8 r9 r10 r11 c c1 c2 (fun o_ o_1 o_2 o_3 o_4 o_5 o_6 o_7 o_8 o_9 o_10 o_11 => K .ret (unpackM (bitsM 5 0x10) [.own 1]) [.obj [.int .i64 (r), .int .i64 o_, .fz ft0 o_1 false, .bool o_2, .fz ft1 o_3 false, .bool o_4, .int .i64 o_5, .int .i64 o_6, .int .i64 o_7, .int .i64 o_8, .bool o_9, .int .i64 o_10], .row ft5 o_11]) | false => none) | false => none) | false => none)
 | _, _ => none
def pc32_15 (fu : Nat) : Nat -> Option ToldP := fun p => match Nat.beq p 491 with | true => some (ghP 1 [.live (bitsM 47 0x400000000029), .gc, .fzC 1 1 ft0, .gc] (pkP (bitsM 47 0x400000000029) (t32_491 fu))) | false => match Nat.beq p 63 with | true => some (ghP 1 [.live (bitsM 6 0x21), .gc] (pkP (bitsM 6 0x21) (t32_63 fu))) | false => none
theorem e32_15 (fu : Nat) (R : Type) (K : VExit -> UEnv -> USt -> Option R) (was : Bool) (r r1 : Int) (r2 : List (List D)) (r3 : Bool) (r4 : List (List D)) (r5 : Bool) (r6 r7 r8 r9 : Int) (r10 : Bool) (r11 c : Int) (c1 : List (List D)) (c2 : Bool) :
  F32_15 fu was r r1 r2 r3 r4 r5 r6 r7 r8 r9 r10 r11 c c1 c2 (fun o_ o_1 o_2 o_3 o_4 o_5 o_6 o_7 o_8 o_9 o_10 o_11 => K .ret (unpackM (bitsM 5 0x10) [.own 1]) [.obj [.int .i64 (r), .int .i64 o_, .fz ft0 o_1 false, .bool o_2, .fz ft1 o_3 false, .bool o_4, .int .i64 o_5, .int .i64 o_6, .int .i64 o_7, .int .i64 o_8, .bool o_9, .int .i64 o_10], .row ft5 o_11]) = uexec Try.prog (tb31 fu) 300 (pc32_15 fu) 15 (pieceOf (codeAt code32 15)) (unpackM (bitsM 6 0x29) [.ptr 0 0, .ptr 1 0, .bool was]) [.obj [.int .i64 r, .int .i64 r1, .fz ft0 r2 false, .bool r3, .fz ft1 r4 false, .bool r5, .int .i64 r6, .int .i64 r7, .int .i64 r8, .int .i64 r9, .bool r10, .int .i64 r11], .obj [.int .i64 c, .fz ft0 c1 false, .bool c2]] (ghK 1 [.live (bitsM 5 0x10), .gc] K) := by kernel_rfl
theorem p32_15 (fu : Nat) : SoundPc Try.prog 1 code32 (pc32_15 fu) := fun p told h b hb => by
 replace h : pc32_15 fu p = some told := h
 unfold pc32_15 at h
 split at h
 ·rename_i hp
  cases h
  have := Nat.eq_of_beq_eq_true hp
  subst this
  rw [a32_491] at hb
  cases hb
  exact ghP_sound (s32_491 fu)
 ·
  split at h
  ·rename_i hp
   cases h
   have := Nat.eq_of_beq_eq_true hp
   subst this
   rw [a32_63] at hb
   cases hb
   exact ghP_sound (s32_63 fu)
  ·
   cases h
theorem s32_15 (fu : Nat) : SoundP Try.prog 1 (pieceOf (codeAt code32 15)) (pkP (bitsM 6 0x29) (t32_15 fu)) := by
 refine pieceP_sound (gout := [.live (bitsM 5 0x10), .gc]) (k := 300) (tb31_sound fu) (p32_15 fu) (by decide) a32_15 (fun R e s K r h => ?_)
 unfold t32_15 at h; split at h
 case h_2 => cases h
 iterate 3 (split at h; (case h_2 => cases h); rename_i hq; have hq := FT.sames_eq _ _ hq; subst hq)
 exact (e32_15 fu R K _ _ _ _ _ _ _ _ _ _ _ _ _ _ _ _).symm.trans h
def Fb32 {R : Type} (fu : Nat) (c : List D) (AL AC : Int) (AB : List (List D)) (AA : Bool) (AK : List (List D)) (AJ : Bool) (AD AG AF AH : Int) (AE : Bool) (AI : Int) (k0 : Int -> (List (List D)) -> Bool -> (List (List D)) -> Bool -> Int -> Int -> Int -> Int -> Bool -> Int -> (List (List D)) -> Option R) : Option R :=
 bif decide ((cell 0 c).toInt < AC) then (k0 AC AB AA AK AJ AD AG AF AH AE AI []) else bif AJ then F32_15 fu (decide ((cell 0 c).toInt = AC)) AL AC AB AA AK AJ AD AG AF AH AE AI (cell 0 c).toInt (cell 1 c).toRows (cell 2 c).toBool fun o_0 o_1 o_2 o_3 o_4 o_5 o_6 o_7 o_8 o_9 o_10 o_11 => (k0 o_0 o_1 o_2 o_3 o_4 o_5 o_6 o_7 o_8 o_9 o_10 o_11) else F32_15 fu false AL AC AB AA AK AJ AD AG AF AH AE AI (cell 0 c).toInt (cell 1 c).toRows (cell 2 c).toBool fun o_12 o_13 o_14 o_15 o_16 o_17 o_18 o_19 o_20 o_21 o_22 o_23 => (k0 o_12 o_13 o_14 o_15 o_16 o_17 o_18 o_19 o_20 o_21 o_22 o_23)
def F32 {R : Type} := shut (@Fb32 R)
theorem F32_eq {R : Type} (fu : Nat) (c : List D) (AL AC : Int) (AB : List (List D)) (AA : Bool) (AK : List (List D)) (AJ : Bool) (AD AG AF AH : Int) (AE : Bool) (AI : Int) (k0 : Int -> (List (List D)) -> Bool -> (List (List D)) -> Bool -> Int -> Int -> Int -> Int -> Bool -> Int -> (List (List D)) -> Option R) : F32 fu c AL AC AB AA AK AJ AD AG AF AH AE AI k0 = Fb32 fu c AL AC AB AA AK AJ AD AG AF AH AE AI k0 := by unfold F32; rw [shut_eq]
def pc32 (fu : Nat) : Nat -> Option ToldP := fun p => match Nat.beq p 15 with | true => some (ghP 1 [.live (bitsM 6 0x29), .gc, .fzC 1 1 ft0, .gc] (pkP (bitsM 6 0x29) (t32_15 fu))) | false => none
def t32 (fu : Nat) : ToldF := fun _ args s K => match args, s with
 | [.ptr 0 0, .agg [.int .i64 q, .fz zq0 q1 false, .bool q2]], [.obj [.int .i64 AL, .int .i64 AC, .fz zq1 AB false, .bool AA, .fz zq2 AK false, .bool AJ, .int .i64 AD, .int .i64 AG, .int .i64 AF, .int .i64 AH, .bool AE, .int .i64 AI]] => (match FT.sames zq0 ft0 with | true => (match FT.sames zq1 ft0 with | true => (match FT.sames zq2 ft1 with | true => F32 fu [D.int q, D.row q1, D.bool q2] AL AC AB AA AK AJ AD AG AF AH AE AI (fun o_ o_1 o_2 o_3 o_4 o_5 o_6 o_7 o_8 o_9 o_10 o_11 => K (.own 1) [.obj [.int .i64 (AL), .int .i64 o_, .fz ft0 o_1 false, .bool o_2, .fz ft1 o_3 false, .bool o_4, .int .i64 o_5, .int .i64 o_6, .int .i64 o_7, .int .i64 o_8, .bool o_9, .int .i64 o_10], .row ft5 o_11]) | false => none) | false => none) | false => none)
 | _, _ => none
theorem e32 (R : Type) (K : UV -> USt -> Option R) (fu : Nat) (q : Int) (q1 : List (List D)) (q2 : Bool) (AL AC : Int) (AB : List (List D)) (AA : Bool) (AK : List (List D)) (AJ : Bool) (AD AG AF AH : Int) (AE : Bool) (AI : Int) :
  F32 fu [D.int q, D.row q1, D.bool q2] AL AC AB AA AK AJ AD AG AF AH AE AI (fun o_ o_1 o_2 o_3 o_4 o_5 o_6 o_7 o_8 o_9 o_10 o_11 => K (.own 1) [.obj [.int .i64 (AL), .int .i64 o_, .fz ft0 o_1 false, .bool o_2, .fz ft1 o_3 false, .bool o_4, .int .i64 o_5, .int .i64 o_6, .int .i64 o_7, .int .i64 o_8, .bool o_9, .int .i64 o_10], .row ft5 o_11]) = ufun Try.prog ⟨(tb31 fu), pc32 fu⟩ 300 32 [.ptr 0 0, .agg [.int .i64 q, .fz ft0 q1 false, .bool q2]] [.obj [.int .i64 AL, .int .i64 AC, .fz ft0 AB false, .bool AA, .fz ft1 AK false, .bool AJ, .int .i64 AD, .int .i64 AG, .int .i64 AF, .int .i64 AH, .bool AE, .int .i64 AI]] (funK 1 [.ownP 0 [] ft5, .gc, .fzC 0 2 ft0, .fzC 0 4 ft1, .gc] K) := (F32_eq fu _ _ _ _ _ _ _ _ _ _ _ _ _ _).trans (by kernel_rfl)
theorem s32 (fu : Nat) : Tells Try.prog 32 (t32 fu) := by
 refine ufun_sound (T := ⟨(tb31 fu), pc32 fu⟩) (m := 1) (gout := [.ownP 0 [] ft5, .gc, .fzC 0 2 ft0, .fzC 0 4 ft1, .gc]) (k := 300) (tb31_sound fu) (fun fn body hf hb => ?_) (fun R args s K r h => ?_) (fun R args s K r h => ?_)
 ·have hc : body = code32 := by
   have h1 : Try.prog.funcs[32]? = some Try.f32 := rfl
   rw [h1] at hf; cases hf
   have h2 : Try.f32.body = some code32 := rfl
   rw [h2] at hb; cases hb; rfl
  subst hc
  exact fun p told h b hb => by
   replace h : pc32 fu p = some told := h
   unfold pc32 at h
   split at h
   ·rename_i hp
    cases h
    have := Nat.eq_of_beq_eq_true hp
    subst this
    rw [a32_15] at hb
    cases hb
    exact ghP_sound (s32_15 fu)
   ·
    cases h

 ·unfold t32 at h; split at h
  ·rfl
  ·cases h
 ·unfold t32 at h; split at h
  case h_2 => cases h
  iterate 3 (split at h; (case h_2 => cases h); rename_i hq; have hq := FT.sames_eq _ _ hq; subst hq)
  exact (e32 R K fu _ _ _ _ _ _ _ _ _ _ _ _ _ _ _).symm.trans h
def tb32 (fu : Nat) : FuncId -> Option (Bool × ToldF) := fun f => match Nat.beq f 32 with
 | true => some (false, ppG (ghG [.fzP 1 [1] ft0, .gc, .fzC 0 2 ft0, .fzC 0 4 ft1, .gc] (t32 fu)))
 | false => (tb31 fu) f
theorem tb32_sound (fu : Nat) : SoundF' Try.prog (tb32 fu) := by
 intro f own told h
 unfold tb32 at h
 split at h
 ·rename_i hb
  cases h
  have := Nat.eq_of_beq_eq_true hb
  subst this
  exact ppG_sound (ghG_sound (s32 fu))
 ·exact (tb31_sound fu) f own told h
def code47 : Code := match Try.f47.body with | some c => c | none => .skip
def Fb47 {R : Type} (fu : Nat) (cmd : ByteArray) (AL AC : Int) (AB : List (List D)) (AA : Bool) (AK : List (List D)) (AJ : Bool) (AD AG AF AH : Int) (AE : Bool) (AI : Int) (k0 : (List (List D)) -> Int -> (List (List D)) -> Option R) : Option R :=
 bif decide (ofN AK.length = 0) && decide (ofN AK.length = 0) then F24 fu AL AC AB AA [[D.str cmd]] AJ AD AG AF AH AE AI fun o_0 => bif o_0 then (k0 ([[D.str cmd]]) 1 []) else F48 fu 0 true AL AC AB AA [[D.str cmd]] AJ AD AG AF AH AE AI fun o_1 => (k0 ([[D.str cmd]]) AD o_1) else bif decide ((0 : Int) <= 0 /\ 0 <= ofN AK.length) && upTo (ofN AK.length) AK.length && decide (ofN AK.length = ofN AK.length) then bif fits ((part AK 0 (ofN AK.length).toNat).length + 1) 16 then F24 fu AL AC AB AA (part AK 0 (ofN AK.length).toNat ++ [[D.str cmd]]) AJ AD AG AF AH AE AI fun o_2 => bif o_2 then (k0 (part AK 0 (ofN AK.length).toNat ++ [[D.str cmd]]) (ofN (part AK 0 (ofN AK.length).toNat ++ [[D.str cmd]]).length) []) else F48 fu (IntKind.i64.wrap (ofN (part AK 0 (ofN AK.length).toNat ++ [[D.str cmd]]).length - 1)) true AL AC AB AA (part AK 0 (ofN AK.length).toNat ++ [[D.str cmd]]) AJ AD AG AF AH AE AI fun o_3 => (k0 (part AK 0 (ofN AK.length).toNat ++ [[D.str cmd]]) AD o_3) else none else none
def F47 {R : Type} := shut (@Fb47 R)
theorem F47_eq {R : Type} (fu : Nat) (cmd : ByteArray) (AL AC : Int) (AB : List (List D)) (AA : Bool) (AK : List (List D)) (AJ : Bool) (AD AG AF AH : Int) (AE : Bool) (AI : Int) (k0 : (List (List D)) -> Int -> (List (List D)) -> Option R) : F47 fu cmd AL AC AB AA AK AJ AD AG AF AH AE AI k0 = Fb47 fu cmd AL AC AB AA AK AJ AD AG AF AH AE AI k0 := by unfold F47; rw [shut_eq]
def pc47 (fu : Nat) : Nat -> Option ToldP := fun _ => none
def t47 (fu : Nat) : ToldF := fun _ args s K => match args, s with
 | [.ptr 0 0, .str cmd], [.obj [.int .i64 AL, .int .i64 AC, .fz zq0 AB false, .bool AA, .fz zq1 AK false, .bool AJ, .int .i64 AD, .int .i64 AG, .int .i64 AF, .int .i64 AH, .bool AE, .int .i64 AI]] => (match FT.sames zq0 ft0 with | true => (match FT.sames zq1 ft1 with | true => F47 fu cmd AL AC AB AA AK AJ AD AG AF AH AE AI (fun o_ o_1 o_2 => K (.own 1) [.obj [.int .i64 (AL), .int .i64 (AC), .fz ft0 (AB) false, .bool (AA), .fz ft1 o_ false, .bool (AJ), .int .i64 o_1, .int .i64 (AG), .int .i64 (AF), .int .i64 (AH), .bool (AE), .int .i64 (AI)], .row ft5 o_2]) | false => none) | false => none)
 | _, _ => none
theorem e47 (R : Type) (K : UV -> USt -> Option R) (fu : Nat) (cmd : ByteArray) (AL AC : Int) (AB : List (List D)) (AA : Bool) (AK : List (List D)) (AJ : Bool) (AD AG AF AH : Int) (AE : Bool) (AI : Int) :
  F47 fu cmd AL AC AB AA AK AJ AD AG AF AH AE AI (fun o_ o_1 o_2 => K (.own 1) [.obj [.int .i64 (AL), .int .i64 (AC), .fz ft0 (AB) false, .bool (AA), .fz ft1 o_ false, .bool (AJ), .int .i64 o_1, .int .i64 (AG), .int .i64 (AF), .int .i64 (AH), .bool (AE), .int .i64 (AI)], .row ft5 o_2]) = ufun Try.prog ⟨(tb32 fu), pc47 fu⟩ 300 47 [.ptr 0 0, .str cmd] [.obj [.int .i64 AL, .int .i64 AC, .fz ft0 AB false, .bool AA, .fz ft1 AK false, .bool AJ, .int .i64 AD, .int .i64 AG, .int .i64 AF, .int .i64 AH, .bool AE, .int .i64 AI]] (funK 1 [.ownP 0 [] ft5, .gc, .fzC 0 2 ft0, .fzC 0 4 ft1, .gc] K) := (F47_eq fu _ _ _ _ _ _ _ _ _ _ _ _ _ _).trans (by kernel_rfl)
theorem s47 (fu : Nat) : Tells Try.prog 47 (t47 fu) := by
 refine ufun_sound (T := ⟨(tb32 fu), pc47 fu⟩) (m := 1) (gout := [.ownP 0 [] ft5, .gc, .fzC 0 2 ft0, .fzC 0 4 ft1, .gc]) (k := 300) (tb32_sound fu) (fun fn body hf hb => ?_) (fun R args s K r h => ?_) (fun R args s K r h => ?_)
 ·have hc : body = code47 := by
   have h1 : Try.prog.funcs[47]? = some Try.f47 := rfl
   rw [h1] at hf; cases hf
   have h2 : Try.f47.body = some code47 := rfl
   rw [h2] at hb; cases hb; rfl
  subst hc
  exact SoundPc.none _ _ _
 ·unfold t47 at h; split at h
  ·rfl
  ·cases h
 ·unfold t47 at h; split at h
  case h_2 => cases h
  iterate 2 (split at h; (case h_2 => cases h); rename_i hq; have hq := FT.sames_eq _ _ hq; subst hq)
  exact (e47 R K fu _ _ _ _ _ _ _ _ _ _ _ _ _).symm.trans h
def tb47 (fu : Nat) : FuncId -> Option (Bool × ToldF) := fun f => match Nat.beq f 47 with
 | true => some (false, ppG (ghG [.gc, .fzC 0 2 ft0, .fzC 0 4 ft1, .gc] (t47 fu)))
 | false => (tb32 fu) f
theorem tb47_sound (fu : Nat) : SoundF' Try.prog (tb47 fu) := by
 intro f own told h
 unfold tb47 at h
 split at h
 ·rename_i hb
  cases h
  have := Nat.eq_of_beq_eq_true hb
  subst this
  exact ppG_sound (ghG_sound (s47 fu))
 ·exact (tb32_sound fu) f own told h
def code30 : Code := match Try.f30.body with | some c => c | none => .skip
def Fb30 {R : Type} (fu : Nat) (cmd : ByteArray) (AL AC : Int) (AB : List (List D)) (AA : Bool) (AK : List (List D)) (AJ : Bool) (AD AG AF AH : Int) (AE : Bool) (AI : Int) (k0 : Int -> Int -> (List (List D)) -> Int -> (List (List D)) -> Option R) : Option R :=
 F23 fu AL AC AB AA AK AJ AD AG AF AH AE AI fun o_0 => bif !o_0 then (k0 0 10 AK AD []) else F47 fu cmd AL AC AB AA AK AJ AD AG AF AH AE AI fun o_1 o_2 o_3 => (k0 (ofN o_1.length) 0 o_1 o_2 o_3)
def F30 {R : Type} := shut (@Fb30 R)
theorem F30_eq {R : Type} (fu : Nat) (cmd : ByteArray) (AL AC : Int) (AB : List (List D)) (AA : Bool) (AK : List (List D)) (AJ : Bool) (AD AG AF AH : Int) (AE : Bool) (AI : Int) (k0 : Int -> Int -> (List (List D)) -> Int -> (List (List D)) -> Option R) : F30 fu cmd AL AC AB AA AK AJ AD AG AF AH AE AI k0 = Fb30 fu cmd AL AC AB AA AK AJ AD AG AF AH AE AI k0 := by unfold F30; rw [shut_eq]
def pc30 (fu : Nat) : Nat -> Option ToldP := fun _ => none
def t30 (fu : Nat) : ToldF := fun _ args s K => match args, s with
 | [.ptr 0 0, .str cmd], [.obj [.int .i64 AL, .int .i64 AC, .fz zq0 AB false, .bool AA, .fz zq1 AK false, .bool AJ, .int .i64 AD, .int .i64 AG, .int .i64 AF, .int .i64 AH, .bool AE, .int .i64 AI]] => (match FT.sames zq0 ft0 with | true => (match FT.sames zq1 ft1 with | true => F30 fu cmd AL AC AB AA AK AJ AD AG AF AH AE AI (fun o_ o_1 o_2 o_3 o_4 => K (.tuple [.int .i64 o_, .own 1, .int .i64 o_1]) [.obj [.int .i64 (AL), .int .i64 (AC), .fz ft0 (AB) false, .bool (AA), .fz ft1 o_2 false, .bool (AJ), .int .i64 o_3, .int .i64 (AG), .int .i64 (AF), .int .i64 (AH), .bool (AE), .int .i64 (AI)], .row ft5 o_4]) | false => none) | false => none)
 | _, _ => none
theorem e30 (R : Type) (K : UV -> USt -> Option R) (fu : Nat) (cmd : ByteArray) (AL AC : Int) (AB : List (List D)) (AA : Bool) (AK : List (List D)) (AJ : Bool) (AD AG AF AH : Int) (AE : Bool) (AI : Int) :
  F30 fu cmd AL AC AB AA AK AJ AD AG AF AH AE AI (fun o_ o_1 o_2 o_3 o_4 => K (.tuple [.int .i64 o_, .own 1, .int .i64 o_1]) [.obj [.int .i64 (AL), .int .i64 (AC), .fz ft0 (AB) false, .bool (AA), .fz ft1 o_2 false, .bool (AJ), .int .i64 o_3, .int .i64 (AG), .int .i64 (AF), .int .i64 (AH), .bool (AE), .int .i64 (AI)], .row ft5 o_4]) = ufun Try.prog ⟨(tb47 fu), pc30 fu⟩ 300 30 [.ptr 0 0, .str cmd] [.obj [.int .i64 AL, .int .i64 AC, .fz ft0 AB false, .bool AA, .fz ft1 AK false, .bool AJ, .int .i64 AD, .int .i64 AG, .int .i64 AF, .int .i64 AH, .bool AE, .int .i64 AI]] (funK 1 [.ownP 0 [1] ft5, .gc, .fzC 0 2 ft0, .fzC 0 4 ft1, .gc] K) := (F30_eq fu _ _ _ _ _ _ _ _ _ _ _ _ _ _).trans (by kernel_rfl)
theorem s30 (fu : Nat) : Tells Try.prog 30 (t30 fu) := by
 refine ufun_sound (T := ⟨(tb47 fu), pc30 fu⟩) (m := 1) (gout := [.ownP 0 [1] ft5, .gc, .fzC 0 2 ft0, .fzC 0 4 ft1, .gc]) (k := 300) (tb47_sound fu) (fun fn body hf hb => ?_) (fun R args s K r h => ?_) (fun R args s K r h => ?_)
 ·have hc : body = code30 := by
   have h1 : Try.prog.funcs[30]? = some Try.f30 := rfl
   rw [h1] at hf; cases hf
   have h2 : Try.f30.body = some code30 := rfl
   rw [h2] at hb; cases hb; rfl
  subst hc
  exact SoundPc.none _ _ _
 ·unfold t30 at h; split at h
  ·rfl
  ·cases h
 ·unfold t30 at h; split at h
  case h_2 => cases h
  iterate 2 (split at h; (case h_2 => cases h); rename_i hq; have hq := FT.sames_eq _ _ hq; subst hq)
  exact (e30 R K fu _ _ _ _ _ _ _ _ _ _ _ _ _).symm.trans h
def tb30 (fu : Nat) : FuncId -> Option (Bool × ToldF) := fun f => match Nat.beq f 30 with
 | true => some (false, ppG (ghG [.gc, .fzC 0 2 ft0, .fzC 0 4 ft1, .gc] (t30 fu)))
 | false => (tb47 fu) f
theorem tb30_sound (fu : Nat) : SoundF' Try.prog (tb30 fu) := by
 intro f own told h
 unfold tb30 at h
 split at h
 ·rename_i hb
  cases h
  have := Nat.eq_of_beq_eq_true hb
  subst this
  exact ppG_sound (ghG_sound (s30 fu))
 ·exact (tb47_sound fu) f own told h
def code55 : Code := match Try.f55.body with | some c => c | none => .skip
def Fb55 {R : Type} (fu : Nat) (AL AC : Int) (AB : List (List D)) (AA : Bool) (AK : List (List D)) (AJ : Bool) (AD AG AF AH : Int) (AE : Bool) (AI : Int) (k0 : (List (List D)) -> Option R) : Option R :=
 F25 fu [D.int AC, D.row AB, D.bool AA] AL fun o_0 => bif decide (o_0 < 0) then (k0 []) else (k0 ([[D.int 1, D.int AL, D.int o_0, D.int AC, D.int AD, D.int 0, D.bool false, D.str (ByteArray.mk #[])]]))
def F55 {R : Type} := shut (@Fb55 R)
theorem F55_eq {R : Type} (fu : Nat) (AL AC : Int) (AB : List (List D)) (AA : Bool) (AK : List (List D)) (AJ : Bool) (AD AG AF AH : Int) (AE : Bool) (AI : Int) (k0 : (List (List D)) -> Option R) : F55 fu AL AC AB AA AK AJ AD AG AF AH AE AI k0 = Fb55 fu AL AC AB AA AK AJ AD AG AF AH AE AI k0 := by unfold F55; rw [shut_eq]
def pc55 (fu : Nat) : Nat -> Option ToldP := fun _ => none
def t55 (fu : Nat) : ToldF := fun _ args s K => match args, s with
 | [.ptr 0 0], [.obj [.int .i64 AL, .int .i64 AC, .fz zq0 AB false, .bool AA, .fz zq1 AK false, .bool AJ, .int .i64 AD, .int .i64 AG, .int .i64 AF, .int .i64 AH, .bool AE, .int .i64 AI]] => (match FT.sames zq0 ft0 with | true => (match FT.sames zq1 ft1 with | true => F55 fu AL AC AB AA AK AJ AD AG AF AH AE AI (fun o_ => K (.own 1) [.obj [.int .i64 (AL), .int .i64 (AC), .fz ft0 (AB) false, .bool (AA), .fz ft1 (AK) false, .bool (AJ), .int .i64 (AD), .int .i64 (AG), .int .i64 (AF), .int .i64 (AH), .bool (AE), .int .i64 (AI)], .row ft5 o_]) | false => none) | false => none)
 | _, _ => none
theorem e55 (R : Type) (K : UV -> USt -> Option R) (fu : Nat) (AL AC : Int) (AB : List (List D)) (AA : Bool) (AK : List (List D)) (AJ : Bool) (AD AG AF AH : Int) (AE : Bool) (AI : Int) :
  F55 fu AL AC AB AA AK AJ AD AG AF AH AE AI (fun o_ => K (.own 1) [.obj [.int .i64 (AL), .int .i64 (AC), .fz ft0 (AB) false, .bool (AA), .fz ft1 (AK) false, .bool (AJ), .int .i64 (AD), .int .i64 (AG), .int .i64 (AF), .int .i64 (AH), .bool (AE), .int .i64 (AI)], .row ft5 o_]) = ufun Try.prog ⟨(tb30 fu), pc55 fu⟩ 300 55 [.ptr 0 0] [.obj [.int .i64 AL, .int .i64 AC, .fz ft0 AB false, .bool AA, .fz ft1 AK false, .bool AJ, .int .i64 AD, .int .i64 AG, .int .i64 AF, .int .i64 AH, .bool AE, .int .i64 AI]] (funK 1 [.ownP 0 [] ft5, .gc, .fzC 0 2 ft0, .fzC 0 4 ft1, .gc] K) := (F55_eq fu _ _ _ _ _ _ _ _ _ _ _ _ _).trans (by kernel_rfl)
theorem s55 (fu : Nat) : Tells Try.prog 55 (t55 fu) := by
 refine ufun_sound (T := ⟨(tb30 fu), pc55 fu⟩) (m := 1) (gout := [.ownP 0 [] ft5, .gc, .fzC 0 2 ft0, .fzC 0 4 ft1, .gc]) (k := 300) (tb30_sound fu) (fun fn body hf hb => ?_) (fun R args s K r h => ?_) (fun R args s K r h => ?_)
 ·have hc : body = code55 := by
   have h1 : Try.prog.funcs[55]? = some Try.f55 := rfl
   rw [h1] at hf; cases hf
   have h2 : Try.f55.body = some code55 := rfl
   rw [h2] at hb; cases hb; rfl
  subst hc
  exact SoundPc.none _ _ _
 ·unfold t55 at h; split at h
  ·rfl
  ·cases h
 ·unfold t55 at h; split at h
  case h_2 => cases h
  iterate 2 (split at h; (case h_2 => cases h); rename_i hq; have hq := FT.sames_eq _ _ hq; subst hq)
  exact (e55 R K fu _ _ _ _ _ _ _ _ _ _ _ _).symm.trans h
def tb55 (fu : Nat) : FuncId -> Option (Bool × ToldF) := fun f => match Nat.beq f 55 with
 | true => some (false, ppG (ghG [.gc, .fzC 0 2 ft0, .fzC 0 4 ft1, .gc] (t55 fu)))
 | false => (tb30 fu) f
theorem tb55_sound (fu : Nat) : SoundF' Try.prog (tb55 fu) := by
 intro f own told h
 unfold tb55 at h
 split at h
 ·rename_i hb
  cases h
  have := Nat.eq_of_beq_eq_true hb
  subst this
  exact ppG_sound (ghG_sound (s55 fu))
 ·exact (tb30_sound fu) f own told h
def code45 : Code := match Try.f45.body with | some c => c | none => .skip
def Fb45 {R : Type} (fu : Nat) (m : List D) (AL AC : Int) (AB : List (List D)) (AA : Bool) (AK : List (List D)) (AJ : Bool) (AD AG AF AH : Int) (AE : Bool) (AI : Int) (k0 : (List (List D)) -> Int -> Int -> (List (List D)) -> Option R) : Option R :=
 bif (cell 6 m).toBool then bif decide ((cell 4 m).toInt = ofN AK.length) then F47 fu (cell 7 m).toStr AL AC AB AA AK AJ AD AG AF AH true (if (cell 5 m).toInt > AI then (cell 5 m).toInt else AI) fun o_0 o_1 o_2 => F55 fu AL AC AB AA o_0 AJ o_1 AG AF AH true (if (cell 5 m).toInt > AI then (cell 5 m).toInt else AI) fun o_3 => bif fits (o_2.length + o_3.length) 72 then (k0 o_0 o_1 (if (cell 5 m).toInt > AI then (cell 5 m).toInt else AI) (o_2 ++ o_3)) else none else F55 fu AL AC AB AA AK AJ AD AG AF AH true (if (cell 5 m).toInt > AI then (cell 5 m).toInt else AI) fun o_4 => bif fits o_4.length 72 then (k0 AK AD (if (cell 5 m).toInt > AI then (cell 5 m).toInt else AI) o_4) else none else F55 fu AL AC AB AA AK AJ AD AG AF AH true (if (cell 5 m).toInt > AI then (cell 5 m).toInt else AI) fun o_5 => bif fits o_5.length 72 then (k0 AK AD (if (cell 5 m).toInt > AI then (cell 5 m).toInt else AI) o_5) else none
def F45 {R : Type} := shut (@Fb45 R)
theorem F45_eq {R : Type} (fu : Nat) (m : List D) (AL AC : Int) (AB : List (List D)) (AA : Bool) (AK : List (List D)) (AJ : Bool) (AD AG AF AH : Int) (AE : Bool) (AI : Int) (k0 : (List (List D)) -> Int -> Int -> (List (List D)) -> Option R) : F45 fu m AL AC AB AA AK AJ AD AG AF AH AE AI k0 = Fb45 fu m AL AC AB AA AK AJ AD AG AF AH AE AI k0 := by unfold F45; rw [shut_eq]
def pc45 (fu : Nat) : Nat -> Option ToldP := fun _ => none
def t45 (fu : Nat) : ToldF := fun _ args s K => match args, s with
 | [.ptr 0 0, .agg [.int .i64 q, .int .i64 q1, .int .i64 q2, .int .i64 q3, .int .i64 q4, .int .i64 q5, .bool q6, .str q7]], [.obj [.int .i64 AL, .int .i64 AC, .fz zq0 AB false, .bool AA, .fz zq1 AK false, .bool AJ, .int .i64 AD, .int .i64 AG, .int .i64 AF, .int .i64 AH, .bool AE, .int .i64 AI]] => (match FT.sames zq0 ft0 with | true => (match FT.sames zq1 ft1 with | true => F45 fu [D.int q, D.int q1, D.int q2, D.int q3, D.int q4, D.int q5, D.bool q6, D.str q7] AL AC AB AA AK AJ AD AG AF AH AE AI (fun o_ o_1 o_2 o_3 => K (.own 1) [.obj [.int .i64 (AL), .int .i64 (AC), .fz ft0 (AB) false, .bool (AA), .fz ft1 o_ false, .bool (AJ), .int .i64 o_1, .int .i64 (AG), .int .i64 (AF), .int .i64 (AH), .bool (true), .int .i64 o_2], .row ft5 o_3]) | false => none) | false => none)
 | _, _ => none
theorem e45 (R : Type) (K : UV -> USt -> Option R) (fu : Nat) (q q1 q2 q3 q4 q5 : Int) (q6 : Bool) (q7 : ByteArray) (AL AC : Int) (AB : List (List D)) (AA : Bool) (AK : List (List D)) (AJ : Bool) (AD AG AF AH : Int) (AE : Bool) (AI : Int) :
  F45 fu [D.int q, D.int q1, D.int q2, D.int q3, D.int q4, D.int q5, D.bool q6, D.str q7] AL AC AB AA AK AJ AD AG AF AH AE AI (fun o_ o_1 o_2 o_3 => K (.own 1) [.obj [.int .i64 (AL), .int .i64 (AC), .fz ft0 (AB) false, .bool (AA), .fz ft1 o_ false, .bool (AJ), .int .i64 o_1, .int .i64 (AG), .int .i64 (AF), .int .i64 (AH), .bool (true), .int .i64 o_2], .row ft5 o_3]) = ufun Try.prog ⟨(tb55 fu), pc45 fu⟩ 300 45 [.ptr 0 0, .agg [.int .i64 q, .int .i64 q1, .int .i64 q2, .int .i64 q3, .int .i64 q4, .int .i64 q5, .bool q6, .str q7]] [.obj [.int .i64 AL, .int .i64 AC, .fz ft0 AB false, .bool AA, .fz ft1 AK false, .bool AJ, .int .i64 AD, .int .i64 AG, .int .i64 AF, .int .i64 AH, .bool AE, .int .i64 AI]] (funK 1 [.gc, .fzC 0 2 ft0, .fzC 0 4 ft1, .gc] K) := (F45_eq fu _ _ _ _ _ _ _ _ _ _ _ _ _ _).trans (by kernel_rfl)
theorem s45 (fu : Nat) : Tells Try.prog 45 (t45 fu) := by
 refine ufun_sound (T := ⟨(tb55 fu), pc45 fu⟩) (m := 1) (gout := [.gc, .fzC 0 2 ft0, .fzC 0 4 ft1, .gc]) (k := 300) (tb55_sound fu) (fun fn body hf hb => ?_) (fun R args s K r h => ?_) (fun R args s K r h => ?_)
 ·have hc : body = code45 := by
   have h1 : Try.prog.funcs[45]? = some Try.f45 := rfl
   rw [h1] at hf; cases hf
   have h2 : Try.f45.body = some code45 := rfl
   rw [h2] at hb; cases hb; rfl
  subst hc
  exact SoundPc.none _ _ _
 ·unfold t45 at h; split at h
  ·rfl
  ·cases h
 ·unfold t45 at h; split at h
  case h_2 => cases h
  iterate 2 (split at h; (case h_2 => cases h); rename_i hq; have hq := FT.sames_eq _ _ hq; subst hq)
  exact (e45 R K fu _ _ _ _ _ _ _ _ _ _ _ _ _ _ _ _ _ _ _ _).symm.trans h
def tb45 (fu : Nat) : FuncId -> Option (Bool × ToldF) := fun f => match Nat.beq f 45 with
 | true => some (false, ppG (ghG [.gc, .fzC 0 2 ft0, .fzC 0 4 ft1, .gc] (t45 fu)))
 | false => (tb55 fu) f
theorem tb45_sound (fu : Nat) : SoundF' Try.prog (tb45 fu) := by
 intro f own told h
 unfold tb45 at h
 split at h
 ·rename_i hb
  cases h
  have := Nat.eq_of_beq_eq_true hb
  subst this
  exact ppG_sound (ghG_sound (s45 fu))
 ·exact (tb55_sound fu) f own told h
def code46 : Code := match Try.f46.body with | some c => c | none => .skip
def Fb46 {R : Type} (fu : Nat) (m : List D) (AL AC : Int) (AB : List (List D)) (AA : Bool) (AK : List (List D)) (AJ : Bool) (AD AG AF AH : Int) (AE : Bool) (AI : Int) (k0 : Int -> Int -> (List (List D)) -> Option R) : Option R :=
 bif decide ((if (if ofN AK.length < (cell 4 m).toInt then ofN AK.length else (cell 4 m).toInt) > AF then if ofN AK.length < (cell 4 m).toInt then ofN AK.length else (cell 4 m).toInt else AF) <= AD) then (k0 AD (if (if ofN AK.length < (cell 4 m).toInt then ofN AK.length else (cell 4 m).toInt) > AF then if ofN AK.length < (cell 4 m).toInt then ofN AK.length else (cell 4 m).toInt else AF) []) else F55 fu AL AC AB AA AK AJ (if (if ofN AK.length < (cell 4 m).toInt then ofN AK.length else (cell 4 m).toInt) > AF then if ofN AK.length < (cell 4 m).toInt then ofN AK.length else (cell 4 m).toInt else AF) AG (if (if ofN AK.length < (cell 4 m).toInt then ofN AK.length else (cell 4 m).toInt) > AF then if ofN AK.length < (cell 4 m).toInt then ofN AK.length else (cell 4 m).toInt else AF) AH AE AI fun o_0 => (k0 (if (if ofN AK.length < (cell 4 m).toInt then ofN AK.length else (cell 4 m).toInt) > AF then if ofN AK.length < (cell 4 m).toInt then ofN AK.length else (cell 4 m).toInt else AF) (if (if ofN AK.length < (cell 4 m).toInt then ofN AK.length else (cell 4 m).toInt) > AF then if ofN AK.length < (cell 4 m).toInt then ofN AK.length else (cell 4 m).toInt else AF) o_0)
def F46 {R : Type} := shut (@Fb46 R)
theorem F46_eq {R : Type} (fu : Nat) (m : List D) (AL AC : Int) (AB : List (List D)) (AA : Bool) (AK : List (List D)) (AJ : Bool) (AD AG AF AH : Int) (AE : Bool) (AI : Int) (k0 : Int -> Int -> (List (List D)) -> Option R) : F46 fu m AL AC AB AA AK AJ AD AG AF AH AE AI k0 = Fb46 fu m AL AC AB AA AK AJ AD AG AF AH AE AI k0 := by unfold F46; rw [shut_eq]
def pc46 (fu : Nat) : Nat -> Option ToldP := fun _ => none
def t46 (fu : Nat) : ToldF := fun _ args s K => match args, s with
 | [.ptr 0 0, .agg [.int .i64 q, .int .i64 q1, .int .i64 q2, .int .i64 q3, .int .i64 q4, .int .i64 q5, .bool q6, .str q7]], [.obj [.int .i64 AL, .int .i64 AC, .fz zq0 AB false, .bool AA, .fz zq1 AK false, .bool AJ, .int .i64 AD, .int .i64 AG, .int .i64 AF, .int .i64 AH, .bool AE, .int .i64 AI]] => (match FT.sames zq0 ft0 with | true => (match FT.sames zq1 ft1 with | true => F46 fu [D.int q, D.int q1, D.int q2, D.int q3, D.int q4, D.int q5, D.bool q6, D.str q7] AL AC AB AA AK AJ AD AG AF AH AE AI (fun o_ o_1 o_2 => K (.own 1) [.obj [.int .i64 (AL), .int .i64 (AC), .fz ft0 (AB) false, .bool (AA), .fz ft1 (AK) false, .bool (AJ), .int .i64 o_, .int .i64 (AG), .int .i64 o_1, .int .i64 (AH), .bool (AE), .int .i64 (AI)], .row ft5 o_2]) | false => none) | false => none)
 | _, _ => none
theorem e46 (R : Type) (K : UV -> USt -> Option R) (fu : Nat) (q q1 q2 q3 q4 q5 : Int) (q6 : Bool) (q7 : ByteArray) (AL AC : Int) (AB : List (List D)) (AA : Bool) (AK : List (List D)) (AJ : Bool) (AD AG AF AH : Int) (AE : Bool) (AI : Int) :
  F46 fu [D.int q, D.int q1, D.int q2, D.int q3, D.int q4, D.int q5, D.bool q6, D.str q7] AL AC AB AA AK AJ AD AG AF AH AE AI (fun o_ o_1 o_2 => K (.own 1) [.obj [.int .i64 (AL), .int .i64 (AC), .fz ft0 (AB) false, .bool (AA), .fz ft1 (AK) false, .bool (AJ), .int .i64 o_, .int .i64 (AG), .int .i64 o_1, .int .i64 (AH), .bool (AE), .int .i64 (AI)], .row ft5 o_2]) = ufun Try.prog ⟨(tb45 fu), pc46 fu⟩ 300 46 [.ptr 0 0, .agg [.int .i64 q, .int .i64 q1, .int .i64 q2, .int .i64 q3, .int .i64 q4, .int .i64 q5, .bool q6, .str q7]] [.obj [.int .i64 AL, .int .i64 AC, .fz ft0 AB false, .bool AA, .fz ft1 AK false, .bool AJ, .int .i64 AD, .int .i64 AG, .int .i64 AF, .int .i64 AH, .bool AE, .int .i64 AI]] (funK 1 [.ownP 0 [] ft5, .gc, .fzC 0 2 ft0, .fzC 0 4 ft1, .gc] K) := (F46_eq fu _ _ _ _ _ _ _ _ _ _ _ _ _ _).trans (by kernel_rfl)
theorem s46 (fu : Nat) : Tells Try.prog 46 (t46 fu) := by
 refine ufun_sound (T := ⟨(tb45 fu), pc46 fu⟩) (m := 1) (gout := [.ownP 0 [] ft5, .gc, .fzC 0 2 ft0, .fzC 0 4 ft1, .gc]) (k := 300) (tb45_sound fu) (fun fn body hf hb => ?_) (fun R args s K r h => ?_) (fun R args s K r h => ?_)
 ·have hc : body = code46 := by
   have h1 : Try.prog.funcs[46]? = some Try.f46 := rfl
   rw [h1] at hf; cases hf
   have h2 : Try.f46.body = some code46 := rfl
   rw [h2] at hb; cases hb; rfl
  subst hc
  exact SoundPc.none _ _ _
 ·unfold t46 at h; split at h
  ·rfl
  ·cases h
 ·unfold t46 at h; split at h
  case h_2 => cases h
  iterate 2 (split at h; (case h_2 => cases h); rename_i hq; have hq := FT.sames_eq _ _ hq; subst hq)
  exact (e46 R K fu _ _ _ _ _ _ _ _ _ _ _ _ _ _ _ _ _ _ _ _).symm.trans h
def tb46 (fu : Nat) : FuncId -> Option (Bool × ToldF) := fun f => match Nat.beq f 46 with
 | true => some (false, ppG (ghG [.gc, .fzC 0 2 ft0, .fzC 0 4 ft1, .gc] (t46 fu)))
 | false => (tb45 fu) f
theorem tb46_sound (fu : Nat) : SoundF' Try.prog (tb46 fu) := by
 intro f own told h
 unfold tb46 at h
 split at h
 ·rename_i hb
  cases h
  have := Nat.eq_of_beq_eq_true hb
  subst this
  exact ppG_sound (ghG_sound (s46 fu))
 ·exact (tb45_sound fu) f own told h
def code28 : Code := match Try.f28.body with | some c => c | none => .skip
def Fb28 {R : Type} (fu : Nat) (m : List D) (AL AC : Int) (AB : List (List D)) (AA : Bool) (AK : List (List D)) (AJ : Bool) (AD AG AF AH : Int) (AE : Bool) (AI : Int) (k0 : (List (List D)) -> Int -> Int -> Bool -> Int -> (List (List D)) -> Option R) : Option R :=
 bif !AJ then (k0 AK AD AF AE AI []) else bif !decide ((cell 2 m).toInt = AL) then (k0 AK AD AF AE AI []) else bif !decide ((cell 3 m).toInt = AC) then (k0 AK AD AF AE AI []) else bif decide ((cell 1 m).toInt < 0) then (k0 AK AD AF AE AI []) else bif decide ((cell 0 m).toInt = 0) then F25 fu [D.int AC, D.row AB, D.bool AA] AL fun o_0 => bif decide ((cell 1 m).toInt = o_0) then F45 fu [D.int (cell 0 m).toInt, D.int (cell 1 m).toInt, D.int (cell 2 m).toInt, D.int (cell 3 m).toInt, D.int (cell 4 m).toInt, D.int (cell 5 m).toInt, D.bool (cell 6 m).toBool, D.str (cell 7 m).toStr] AL AC AB AA AK AJ AD AG AF AH AE AI fun o_1 o_2 o_3 o_4 => (k0 o_1 o_2 AF true o_3 o_4) else bif decide ((cell 0 m).toInt = 1) then F26 fu [D.int AC, D.row AB, D.bool AA] AL fun o_5 => bif decide ((cell 1 m).toInt = o_5) then F46 fu [D.int (cell 0 m).toInt, D.int (cell 1 m).toInt, D.int (cell 2 m).toInt, D.int (cell 3 m).toInt, D.int (cell 4 m).toInt, D.int (cell 5 m).toInt, D.bool (cell 6 m).toBool, D.str (cell 7 m).toStr] AL AC AB AA AK AJ AD AG AF AH AE AI fun o_6 o_7 o_8 => (k0 AK o_6 o_7 AE AI o_8) else (k0 AK AD AF AE AI []) else (k0 AK AD AF AE AI []) else bif decide ((cell 0 m).toInt = 1) then F26 fu [D.int AC, D.row AB, D.bool AA] AL fun o_9 => bif decide ((cell 1 m).toInt = o_9) then F46 fu [D.int (cell 0 m).toInt, D.int (cell 1 m).toInt, D.int (cell 2 m).toInt, D.int (cell 3 m).toInt, D.int (cell 4 m).toInt, D.int (cell 5 m).toInt, D.bool (cell 6 m).toBool, D.str (cell 7 m).toStr] AL AC AB AA AK AJ AD AG AF AH AE AI fun o_10 o_11 o_12 => (k0 AK o_10 o_11 AE AI o_12) else (k0 AK AD AF AE AI []) else (k0 AK AD AF AE AI [])
def F28 {R : Type} := shut (@Fb28 R)
theorem F28_eq {R : Type} (fu : Nat) (m : List D) (AL AC : Int) (AB : List (List D)) (AA : Bool) (AK : List (List D)) (AJ : Bool) (AD AG AF AH : Int) (AE : Bool) (AI : Int) (k0 : (List (List D)) -> Int -> Int -> Bool -> Int -> (List (List D)) -> Option R) : F28 fu m AL AC AB AA AK AJ AD AG AF AH AE AI k0 = Fb28 fu m AL AC AB AA AK AJ AD AG AF AH AE AI k0 := by unfold F28; rw [shut_eq]
def pc28 (fu : Nat) : Nat -> Option ToldP := fun _ => none
def t28 (fu : Nat) : ToldF := fun _ args s K => match args, s with
 | [.ptr 0 0, .agg [.int .i64 q, .int .i64 q1, .int .i64 q2, .int .i64 q3, .int .i64 q4, .int .i64 q5, .bool q6, .str q7]], [.obj [.int .i64 AL, .int .i64 AC, .fz zq0 AB false, .bool AA, .fz zq1 AK false, .bool AJ, .int .i64 AD, .int .i64 AG, .int .i64 AF, .int .i64 AH, .bool AE, .int .i64 AI]] => (match FT.sames zq0 ft0 with | true => (match FT.sames zq1 ft1 with | true => F28 fu [D.int q, D.int q1, D.int q2, D.int q3, D.int q4, D.int q5, D.bool q6, D.str q7] AL AC AB AA AK AJ AD AG AF AH AE AI (fun o_ o_1 o_2 o_3 o_4 o_5 => K (.own 1) [.obj [.int .i64 (AL), .int .i64 (AC), .fz ft0 (AB) false, .bool (AA), .fz ft1 o_ false, .bool (AJ), .int .i64 o_1, .int .i64 (AG), .int .i64 o_2, .int .i64 (AH), .bool o_3, .int .i64 o_4], .row ft5 o_5]) | false => none) | false => none)
 | _, _ => none
theorem e28 (R : Type) (K : UV -> USt -> Option R) (fu : Nat) (q q1 q2 q3 q4 q5 : Int) (q6 : Bool) (q7 : ByteArray) (AL AC : Int) (AB : List (List D)) (AA : Bool) (AK : List (List D)) (AJ : Bool) (AD AG AF AH : Int) (AE : Bool) (AI : Int) :
  F28 fu [D.int q, D.int q1, D.int q2, D.int q3, D.int q4, D.int q5, D.bool q6, D.str q7] AL AC AB AA AK AJ AD AG AF AH AE AI (fun o_ o_1 o_2 o_3 o_4 o_5 => K (.own 1) [.obj [.int .i64 (AL), .int .i64 (AC), .fz ft0 (AB) false, .bool (AA), .fz ft1 o_ false, .bool (AJ), .int .i64 o_1, .int .i64 (AG), .int .i64 o_2, .int .i64 (AH), .bool o_3, .int .i64 o_4], .row ft5 o_5]) = ufun Try.prog ⟨(tb46 fu), pc28 fu⟩ 300 28 [.ptr 0 0, .agg [.int .i64 q, .int .i64 q1, .int .i64 q2, .int .i64 q3, .int .i64 q4, .int .i64 q5, .bool q6, .str q7]] [.obj [.int .i64 AL, .int .i64 AC, .fz ft0 AB false, .bool AA, .fz ft1 AK false, .bool AJ, .int .i64 AD, .int .i64 AG, .int .i64 AF, .int .i64 AH, .bool AE, .int .i64 AI]] (funK 1 [.ownP 0 [] ft5, .gc, .fzC 0 2 ft0, .fzC 0 4 ft1, .gc] K) := (F28_eq fu _ _ _ _ _ _ _ _ _ _ _ _ _ _).trans (by kernel_rfl)
theorem s28 (fu : Nat) : Tells Try.prog 28 (t28 fu) := by
 refine ufun_sound (T := ⟨(tb46 fu), pc28 fu⟩) (m := 1) (gout := [.ownP 0 [] ft5, .gc, .fzC 0 2 ft0, .fzC 0 4 ft1, .gc]) (k := 300) (tb46_sound fu) (fun fn body hf hb => ?_) (fun R args s K r h => ?_) (fun R args s K r h => ?_)
 ·have hc : body = code28 := by
   have h1 : Try.prog.funcs[28]? = some Try.f28 := rfl
   rw [h1] at hf; cases hf
   have h2 : Try.f28.body = some code28 := rfl
   rw [h2] at hb; cases hb; rfl
  subst hc
  exact SoundPc.none _ _ _
 ·unfold t28 at h; split at h
  ·rfl
  ·cases h
 ·unfold t28 at h; split at h
  case h_2 => cases h
  iterate 2 (split at h; (case h_2 => cases h); rename_i hq; have hq := FT.sames_eq _ _ hq; subst hq)
  exact (e28 R K fu _ _ _ _ _ _ _ _ _ _ _ _ _ _ _ _ _ _ _ _).symm.trans h
def tb28 (fu : Nat) : FuncId -> Option (Bool × ToldF) := fun f => match Nat.beq f 28 with
 | true => some (false, ppG (ghG [.gc, .fzC 0 2 ft0, .fzC 0 4 ft1, .gc] (t28 fu)))
 | false => (tb46 fu) f
theorem tb28_sound (fu : Nat) : SoundF' Try.prog (tb28 fu) := by
 intro f own told h
 unfold tb28 at h
 split at h
 ·rename_i hb
  cases h
  have := Nat.eq_of_beq_eq_true hb
  subst this
  exact ppG_sound (ghG_sound (s28 fu))
 ·exact (tb46_sound fu) f own told h
def code14 : Code := match Try.f14.body with | some c => c | none => .skip
def Fb14 {R : Type} (fu : Nat) (k_ : Int) (k0 : ByteArray -> Option R) : Option R :=
 bif decide (↑((runeS (IntKind.i32.wrap (IntKind.i64.wrap (97 + k_.tmod 26)))).size + (runeS (IntKind.i32.wrap (IntKind.i64.wrap (97 + (IntKind.i64.wrap (k_.tdiv 26)).tmod 26)))).size) <= IntKind.i64.max) then (k0 (runeS (IntKind.i32.wrap (IntKind.i64.wrap (97 + k_.tmod 26))) ++ runeS (IntKind.i32.wrap (IntKind.i64.wrap (97 + (IntKind.i64.wrap (k_.tdiv 26)).tmod 26))))) else none
def F14 {R : Type} := shut (@Fb14 R)
theorem F14_eq {R : Type} (fu : Nat) (k_ : Int) (k0 : ByteArray -> Option R) : F14 fu k_ k0 = Fb14 fu k_ k0 := by unfold F14; rw [shut_eq]
def pc14 (fu : Nat) : Nat -> Option ToldP := fun _ => none
def t14 (fu : Nat) : ToldF := fun _ args s K => match args, s with
 | [.int .i64 k_], [] => F14 fu k_ (fun o_ => K (.str o_) [])
 | _, _ => none
theorem e14 (R : Type) (K : UV -> USt -> Option R) (fu : Nat) (k_ : Int) :
  F14 fu k_ (fun o_ => K (.str o_) []) = ufun Try.prog ⟨(tb28 fu), pc14 fu⟩ 300 14 [.int .i64 k_] [] (funK 0 [.gc] K) := (F14_eq fu _ _).trans (by kernel_rfl)
theorem s14 (fu : Nat) : Tells Try.prog 14 (t14 fu) := by
 refine ufun_sound (T := ⟨(tb28 fu), pc14 fu⟩) (m := 0) (gout := [.gc]) (k := 300) (tb28_sound fu) (fun fn body hf hb => ?_) (fun R args s K r h => ?_) (fun R args s K r h => ?_)
 ·have hc : body = code14 := by
   have h1 : Try.prog.funcs[14]? = some Try.f14 := rfl
   rw [h1] at hf; cases hf
   have h2 : Try.f14.body = some code14 := rfl
   rw [h2] at hb; cases hb; rfl
  subst hc
  exact SoundPc.none _ _ _
 ·unfold t14 at h; split at h
  ·rfl
  ·cases h
 ·unfold t14 at h; split at h
  case h_2 => cases h
  exact (e14 R K fu _).symm.trans h
def tb14 (fu : Nat) : FuncId -> Option (Bool × ToldF) := fun f => match Nat.beq f 14 with
 | true => some (false, ghG [] (t14 fu))
 | false => (tb28 fu) f
theorem tb14_sound (fu : Nat) : SoundF' Try.prog (tb14 fu) := by
 intro f own told h
 unfold tb14 at h
 split at h
 ·rename_i hb
  cases h
  have := Nat.eq_of_beq_eq_true hb
  subst this
  exact ghG_sound (s14 fu)
 ·exact (tb28_sound fu) f own told h
def code18 : Code := match Try.f18.body with | some c => c | none => .skip
theorem a18_58 : codeAt code18 58 = some (.loop (loopBody (codeAt code18 58))) := by kernel_rfl
def F18_58 {R : Type} (fu : Nat) (row x : List (List D)) (x1 : Int) : Nat -> Int -> (Option R) -> (Option R) -> Option R
 | 0, _, _, _ => none
 | n + 1, x2, k0, k1 => bif decide (x2 < x1) then bif within x2 x.length then bif within x2 row.length then bif !strEq (cell 0 (elem x2.toNat row)).toStr (cell 0 (elem x2.toNat x)).toStr then (k0) else (F18_58 fu row x x1 n (IntKind.i64.wrap (x2 + 1)) k0 k1) else none else none else (k1)
def t18_58 (fu n : Nat) : ToldP := fun _ e s K => match e, s with
 | [.fz zq0 row false, .fz zq1 x false, .int .i64 x1, .int .i64 x2], [] => (match FT.sames zq0 ft1 with | true => (match FT.sames zq1 ft1 with | true => F18_58 fu row x x1 n x2 (K .ret (unpackM (bitsM 5 0x10) [.bool (false)]) []) (K (.exit 0) (unpackM (bitsM 5 0x0) []) []) | false => none) | false => none)
 | _, _ => none
def pc18_58 (fu : Nat) : Nat -> Option ToldP := fun _ => none
theorem e18_58 (fu n : Nat) (R : Type) (K : VExit -> UEnv -> USt -> Option R) (row x : List (List D)) (x1 x2 : Int) :
  F18_58 fu row x x1 (n + 1) x2 (K .ret (unpackM (bitsM 5 0x10) [.bool (false)]) []) (K (.exit 0) (unpackM (bitsM 5 0x0) []) []) = uexec Try.prog (tb14 fu) 300 (pc18_58 fu) 116 (loopBody (codeAt code18 58)) (unpackM (bitsM 15 0x7001) [.fz ft1 row false, .fz ft1 x false, .int .i64 x1, .int .i64 x2]) [] (loopK 0 [.live (bitsM 15 0x7001), .fzP 0 [] ft1, .fzP 12 [] ft1, .gc] [.live (bitsM 5 0x10), .gc] (pkP (bitsM 15 0x7001) (t18_58 fu n)) K) := by kernel_rfl
theorem p18_58 (fu : Nat) : SoundPc Try.prog 0 code18 (pc18_58 fu) := SoundPc.none _ _ _
theorem s18_58 (fu : Nat) : ∀ n, SoundP Try.prog 0 (.loop (loopBody (codeAt code18 58))) (pkP (bitsM 15 0x7001) (t18_58 fu n)) := by
 refine loopP_sound (gin := [.live (bitsM 15 0x7001), .fzP 0 [] ft1, .fzP 12 [] ft1, .gc]) (gout := [.live (bitsM 5 0x10), .gc]) (k := 300) (tb14_sound fu) (p18_58 fu) (by decide) a18_58 (fun R e s K => ?_) (fun n R e s K r h => ?_)
 ·unfold t18_58; repeat' split
  all_goals rfl
 ·unfold t18_58 at h; split at h
  case h_2 => cases h
  iterate 2 (split at h; (case h_2 => cases h); rename_i hq; have hq := FT.sames_eq _ _ hq; subst hq)
  exact (e18_58 fu n R K _ _ _ _).symm.trans h
def Fb18 {R : Type} (fu : Nat) (row with_ : List (List D)) (k0 : Bool -> Option R) : Option R :=
 bif decide (ofN row.length < ofN with_.length) then (k0 false) else F18_58 fu row with_ (ofN with_.length) fu 0 ((k0 false)) ((k0 true))
def F18 {R : Type} := shut (@Fb18 R)
theorem F18_eq {R : Type} (fu : Nat) (row with_ : List (List D)) (k0 : Bool -> Option R) : F18 fu row with_ k0 = Fb18 fu row with_ k0 := by unfold F18; rw [shut_eq]
def pc18 (fu : Nat) : Nat -> Option ToldP := fun p => match Nat.beq p 58 with | true => some (ghP 0 [.live (bitsM 15 0x7001), .fzP 0 [] ft1, .fzP 12 [] ft1, .gc] (pkP (bitsM 15 0x7001) (t18_58 fu fu))) | false => none
def t18 (fu : Nat) : ToldF := fun _ args s K => match args, s with
 | [.fz zq0 row false, .fz zq1 with_ false], [] => (match FT.sames zq0 ft1 with | true => (match FT.sames zq1 ft1 with | true => F18 fu row with_ (fun o_ => K (.bool o_) []) | false => none) | false => none)
 | _, _ => none
theorem e18 (R : Type) (K : UV -> USt -> Option R) (fu : Nat) (row with_ : List (List D)) :
  F18 fu row with_ (fun o_ => K (.bool o_) []) = ufun Try.prog ⟨(tb14 fu), pc18 fu⟩ 300 18 [.fz ft1 row false, .fz ft1 with_ false] [] (funK 0 [.gc] K) := (F18_eq fu _ _ _).trans (by kernel_rfl)
theorem s18 (fu : Nat) : Tells Try.prog 18 (t18 fu) := by
 refine ufun_sound (T := ⟨(tb14 fu), pc18 fu⟩) (m := 0) (gout := [.gc]) (k := 300) (tb14_sound fu) (fun fn body hf hb => ?_) (fun R args s K r h => ?_) (fun R args s K r h => ?_)
 ·have hc : body = code18 := by
   have h1 : Try.prog.funcs[18]? = some Try.f18 := rfl
   rw [h1] at hf; cases hf
   have h2 : Try.f18.body = some code18 := rfl
   rw [h2] at hb; cases hb; rfl
  subst hc
  exact fun p told h b hb => by
   replace h : pc18 fu p = some told := h
   unfold pc18 at h
   split at h
   ·rename_i hp
    cases h
    have := Nat.eq_of_beq_eq_true hp
    subst this
    rw [a18_58] at hb
    cases hb
    exact ghP_sound (s18_58 fu _)
   ·
    cases h

 ·unfold t18 at h; split at h
  ·rfl
  ·cases h
 ·unfold t18 at h; split at h
  case h_2 => cases h
  iterate 2 (split at h; (case h_2 => cases h); rename_i hq; have hq := FT.sames_eq _ _ hq; subst hq)
  exact (e18 R K fu _ _).symm.trans h
def tb18 (fu : Nat) : FuncId -> Option (Bool × ToldF) := fun f => match Nat.beq f 18 with
 | true => some (false, ghG [.fzP 0 [] ft1, .fzP 1 [] ft1] (t18 fu))
 | false => (tb14 fu) f
theorem tb18_sound (fu : Nat) : SoundF' Try.prog (tb18 fu) := by
 intro f own told h
 unfold tb18 at h
 split at h
 ·rename_i hb
  cases h
  have := Nat.eq_of_beq_eq_true hb
  subst this
  exact ghG_sound (s18 fu)
 ·exact (tb14_sound fu) f own told h
def code12 : Code := match Try.f12.body with | some c => c | none => .skip
def Fb12 {R : Type} (fu : Nat) (n_ : Int) (k0 : Int -> Option R) : Option R :=
 (k0 (IntKind.i64.wrap (1 + (IntKind.i64.wrap n_).tmod 4)))
def F12 {R : Type} := shut (@Fb12 R)
theorem F12_eq {R : Type} (fu : Nat) (n_ : Int) (k0 : Int -> Option R) : F12 fu n_ k0 = Fb12 fu n_ k0 := by unfold F12; rw [shut_eq]
def pc12 (fu : Nat) : Nat -> Option ToldP := fun _ => none
def t12 (fu : Nat) : ToldF := fun _ args s K => match args, s with
 | [.int .u8 n_], [] => F12 fu n_ (fun o_ => K (.int .i64 o_) [])
 | _, _ => none
theorem e12 (R : Type) (K : UV -> USt -> Option R) (fu : Nat) (n_ : Int) :
  F12 fu n_ (fun o_ => K (.int .i64 o_) []) = ufun Try.prog ⟨(tb18 fu), pc12 fu⟩ 300 12 [.int .u8 n_] [] (funK 0 [.gc] K) := (F12_eq fu _ _).trans (by kernel_rfl)
theorem s12 (fu : Nat) : Tells Try.prog 12 (t12 fu) := by
 refine ufun_sound (T := ⟨(tb18 fu), pc12 fu⟩) (m := 0) (gout := [.gc]) (k := 300) (tb18_sound fu) (fun fn body hf hb => ?_) (fun R args s K r h => ?_) (fun R args s K r h => ?_)
 ·have hc : body = code12 := by
   have h1 : Try.prog.funcs[12]? = some Try.f12 := rfl
   rw [h1] at hf; cases hf
   have h2 : Try.f12.body = some code12 := rfl
   rw [h2] at hb; cases hb; rfl
  subst hc
  exact SoundPc.none _ _ _
 ·unfold t12 at h; split at h
  ·rfl
  ·cases h
 ·unfold t12 at h; split at h
  case h_2 => cases h
  exact (e12 R K fu _).symm.trans h
def tb12 (fu : Nat) : FuncId -> Option (Bool × ToldF) := fun f => match Nat.beq f 12 with
 | true => some (false, ghG [] (t12 fu))
 | false => (tb18 fu) f
theorem tb12_sound (fu : Nat) : SoundF' Try.prog (tb12 fu) := by
 intro f own told h
 unfold tb12 at h
 split at h
 ·rename_i hb
  cases h
  have := Nat.eq_of_beq_eq_true hb
  subst this
  exact ghG_sound (s12 fu)
 ·exact (tb18_sound fu) f own told h
abbrev ft6 : List FT := [FT.int IntKind.i64, FT.int IntKind.i64, FT.row 8 [FT.int IntKind.i64], FT.bool, FT.row 16 [FT.str], FT.bool, FT.int IntKind.i64, FT.int IntKind.i64, FT.int IntKind.i64, FT.int IntKind.i64, FT.bool, FT.int IntKind.i64]
def code36 : Code := match Try.f36.body with | some c => c | none => .skip
def Fb36 {R : Type} (fu : Nat) (AG AF AD AA : List (List D)) (AB : Int) (AC : Bool) (AE : List (D × List D)) (k0 : (List (List D)) -> Option R) : Option R :=
 F50 fu 0 AE fun o_0 o_1 => bif fits (AF.length + 1) 40 then (k0 (AF ++ [[D.int (cell 0 o_0).toInt, D.row (cell 1 o_0).toRows, D.bool (cell 2 o_0).toBool]])) else none
def F36 {R : Type} := shut (@Fb36 R)
theorem F36_eq {R : Type} (fu : Nat) (AG AF AD AA : List (List D)) (AB : Int) (AC : Bool) (AE : List (D × List D)) (k0 : (List (List D)) -> Option R) : F36 fu AG AF AD AA AB AC AE k0 = Fb36 fu AG AF AD AA AB AC AE k0 := by unfold F36; rw [shut_eq]
def pc36 (fu : Nat) : Nat -> Option ToldP := fun _ => none
def t36 (fu : Nat) : ToldF := fun _ args s K => match args, s with
 | [.ptr 0 0], [.obj [.pown 1, .ptr 2 0, .own 3, .own 4, .fz zq0 AA false, .int .i64 AB, .bool AC], .pool zq1 AG none, .obj [.map 5], .row zq2 AF, .row zq3 AD, .map (.int .i64) true zq4 AE] => (match FT.sames zq0 ft1 with | true => (match FT.sames zq1 ft6 with | true => (match FT.sames zq2 ft2 with | true => (match FT.sames zq3 ft5 with | true => (match FT.sames zq4 ft2 with | true => F36 fu AG AF AD AA AB AC AE (fun o_ => K (.tuple []) [.obj [.pown 1, .ptr 2 0, .own 6, .own 4, .fz ft1 (AA) false, .int .i64 (AB), .bool (AC)], .pool ft6 (AG) none, .obj [.map 5], .gone, .row ft5 (AD), .map (.int .i64) true ft2 (AE), .row ft2 o_]) | false => none) | false => none) | false => none) | false => none) | false => none)
 | _, _ => none
theorem e36 (R : Type) (K : UV -> USt -> Option R) (fu : Nat) (AG AF AD AA : List (List D)) (AB : Int) (AC : Bool) (AE : List (D × List D)) :
  F36 fu AG AF AD AA AB AC AE (fun o_ => K (.tuple []) [.obj [.pown 1, .ptr 2 0, .own 6, .own 4, .fz ft1 (AA) false, .int .i64 (AB), .bool (AC)], .pool ft6 (AG) none, .obj [.map 5], .gone, .row ft5 (AD), .map (.int .i64) true ft2 (AE), .row ft2 o_]) = ufun Try.prog ⟨(tb12 fu), pc36 fu⟩ 300 36 [.ptr 0 0] [.obj [.pown 1, .ptr 2 0, .own 3, .own 4, .fz ft1 AA false, .int .i64 AB, .bool AC], .pool ft6 AG none, .obj [.map 5], .row ft2 AF, .row ft5 AD, .map (.int .i64) true ft2 AE] (funK 6 [.gc, .ownC 0 2 ft2, .ownC 0 3 ft5, .fzC 0 4 ft1, .gc] K) := (F36_eq fu _ _ _ _ _ _ _ _).trans (by kernel_rfl)
theorem s36 (fu : Nat) : Tells Try.prog 36 (t36 fu) := by
 refine ufun_sound (T := ⟨(tb12 fu), pc36 fu⟩) (m := 6) (gout := [.gc, .ownC 0 2 ft2, .ownC 0 3 ft5, .fzC 0 4 ft1, .gc]) (k := 300) (tb12_sound fu) (fun fn body hf hb => ?_) (fun R args s K r h => ?_) (fun R args s K r h => ?_)
 ·have hc : body = code36 := by
   have h1 : Try.prog.funcs[36]? = some Try.f36 := rfl
   rw [h1] at hf; cases hf
   have h2 : Try.f36.body = some code36 := rfl
   rw [h2] at hb; cases hb; rfl
  subst hc
  exact SoundPc.none _ _ _
 ·unfold t36 at h; split at h
  ·rfl
  ·cases h
 ·unfold t36 at h; split at h
  case h_2 => cases h
  iterate 5 (split at h; (case h_2 => cases h); rename_i hq; have hq := FT.sames_eq _ _ hq; subst hq)
  exact (e36 R K fu _ _ _ _ _ _ _).symm.trans h
def tb36 (fu : Nat) : FuncId -> Option (Bool × ToldF) := fun f => match Nat.beq f 36 with
 | true => some (false, ghG [.gc, .pownC 0 0 ft6, .ownC 0 2 ft2, .ownC 0 3 ft5, .fzC 0 4 ft1, .gc] (t36 fu))
 | false => (tb12 fu) f
theorem tb36_sound (fu : Nat) : SoundF' Try.prog (tb36 fu) := by
 intro f own told h
 unfold tb36 at h
 split at h
 ·rename_i hb
  cases h
  have := Nat.eq_of_beq_eq_true hb
  subst this
  exact ghG_sound (s36 fu)
 ·exact (tb12_sound fu) f own told h
def code37 : Code := match Try.f37.body with | some c => c | none => .skip
def Fb37 {R : Type} (fu : Nat) (at_ : Int) (stays : Bool) (AG AF AD AA : List (List D)) (AB : Int) (AC : Bool) (AE : List (D × List D)) (k0 k1 : (List (List D)) -> (List (List D)) -> Option R) (k2 : Option R) : Option R :=
 bif within at_ AD.length then bif !stays then bif decide ((0 : Int) <= 0 /\ 0 <= at_) && upTo at_ AD.length then bif fits (0 + (part AD 0 at_.toNat).length) 72 then bif decide (0 <= IntKind.i64.wrap (at_ + 1) /\ IntKind.i64.wrap (at_ + 1) <= ofN AD.length) && upTo (ofN AD.length) AD.length then bif fits ((part AD 0 at_.toNat).length + (part AD (IntKind.i64.wrap (at_ + 1)).toNat (ofN AD.length).toNat).length) 72 then bif decide (0 <= (cell 2 (elem at_.toNat AD)).toInt) then bif decide ((cell 2 (elem at_.toNat AD)).toInt < 5) then bif within (cell 2 (elem at_.toNat AD)).toInt AG.length then letR (elem (cell 2 (elem at_.toNat AD)).toInt.toNat AG) fun Z0 => F28 fu [D.int (cell 0 (elem at_.toNat AD)).toInt, D.int (cell 1 (elem at_.toNat AD)).toInt, D.int (cell 2 (elem at_.toNat AD)).toInt, D.int (cell 3 (elem at_.toNat AD)).toInt, D.int (cell 4 (elem at_.toNat AD)).toInt, D.int (cell 5 (elem at_.toNat AD)).toInt, D.bool (cell 6 (elem at_.toNat AD)).toBool, D.str (cell 7 (elem at_.toNat AD)).toStr] (cell 0 Z0).toInt (cell 1 Z0).toInt (cell 2 Z0).toRows (cell 3 Z0).toBool (cell 4 Z0).toRows (cell 5 Z0).toBool (cell 6 Z0).toInt (cell 7 Z0).toInt (cell 8 Z0).toInt (cell 9 Z0).toInt (cell 10 Z0).toBool (cell 11 Z0).toInt fun o_1 o_2 o_3 o_4 o_5 o_6 => letD (setAt AG (cell 2 (elem at_.toNat AD)).toInt.toNat [D.int (cell 0 Z0).toInt, D.int (cell 1 Z0).toInt, D.row (cell 2 Z0).toRows, D.bool (cell 3 Z0).toBool, D.row o_1, D.bool (cell 5 Z0).toBool, D.int o_2, D.int (cell 7 Z0).toInt, D.int o_3, D.int (cell 9 Z0).toInt, D.bool o_4, D.int o_5]) fun es7 => bif fits ((part AD 0 at_.toNat ++ part AD (IntKind.i64.wrap (at_ + 1)).toNat (ofN AD.length).toNat).length + o_6.length) 72 then (k0 es7 (part AD 0 at_.toNat ++ part AD (IntKind.i64.wrap (at_ + 1)).toNat (ofN AD.length).toNat ++ o_6)) else none else none else (k0 AG (part AD 0 at_.toNat ++ part AD (IntKind.i64.wrap (at_ + 1)).toNat (ofN AD.length).toNat)) else (k0 AG (part AD 0 at_.toNat ++ part AD (IntKind.i64.wrap (at_ + 1)).toNat (ofN AD.length).toNat)) else none else none else none else none else bif decide (0 <= (cell 2 (elem at_.toNat AD)).toInt) then bif decide ((cell 2 (elem at_.toNat AD)).toInt < 5) then bif within (cell 2 (elem at_.toNat AD)).toInt AG.length then letR (elem (cell 2 (elem at_.toNat AD)).toInt.toNat AG) fun Z8 => F28 fu [D.int (cell 0 (elem at_.toNat AD)).toInt, D.int (cell 1 (elem at_.toNat AD)).toInt, D.int (cell 2 (elem at_.toNat AD)).toInt, D.int (cell 3 (elem at_.toNat AD)).toInt, D.int (cell 4 (elem at_.toNat AD)).toInt, D.int (cell 5 (elem at_.toNat AD)).toInt, D.bool (cell 6 (elem at_.toNat AD)).toBool, D.str (cell 7 (elem at_.toNat AD)).toStr] (cell 0 Z8).toInt (cell 1 Z8).toInt (cell 2 Z8).toRows (cell 3 Z8).toBool (cell 4 Z8).toRows (cell 5 Z8).toBool (cell 6 Z8).toInt (cell 7 Z8).toInt (cell 8 Z8).toInt (cell 9 Z8).toInt (cell 10 Z8).toBool (cell 11 Z8).toInt fun o_9 o_10 o_11 o_12 o_13 o_14 => letD (setAt AG (cell 2 (elem at_.toNat AD)).toInt.toNat [D.int (cell 0 Z8).toInt, D.int (cell 1 Z8).toInt, D.row (cell 2 Z8).toRows, D.bool (cell 3 Z8).toBool, D.row o_9, D.bool (cell 5 Z8).toBool, D.int o_10, D.int (cell 7 Z8).toInt, D.int o_11, D.int (cell 9 Z8).toInt, D.bool o_12, D.int o_13]) fun es15 => bif fits (AD.length + o_14.length) 72 then (k1 es15 (AD ++ o_14)) else none else none else (k2) else (k2) else none
def F37 {R : Type} := shut (@Fb37 R)
theorem F37_eq {R : Type} (fu : Nat) (at_ : Int) (stays : Bool) (AG AF AD AA : List (List D)) (AB : Int) (AC : Bool) (AE : List (D × List D)) (k0 k1 : (List (List D)) -> (List (List D)) -> Option R) (k2 : Option R) : F37 fu at_ stays AG AF AD AA AB AC AE k0 k1 k2 = Fb37 fu at_ stays AG AF AD AA AB AC AE k0 k1 k2 := by unfold F37; rw [shut_eq]
def pc37 (fu : Nat) : Nat -> Option ToldP := fun _ => none
def t37 (fu : Nat) : ToldF := fun _ args s K => match args, s with
 | [.ptr 0 0, .int .i64 at_, .bool stays], [.obj [.pown 1, .ptr 2 0, .own 3, .own 4, .fz zq0 AA false, .int .i64 AB, .bool AC], .pool zq1 AG none, .obj [.map 5], .row zq2 AF, .row zq3 AD, .map (.int .i64) true zq4 AE] => (match FT.sames zq0 ft1 with | true => (match FT.sames zq1 ft6 with | true => (match FT.sames zq2 ft2 with | true => (match FT.sames zq3 ft5 with | true => (match FT.sames zq4 ft2 with | true => F37 fu at_ stays AG AF AD AA AB AC AE (fun o_ o_1 => K (.tuple []) [.obj [.pown 1, .ptr 2 0, .own 3, .own 6, .fz ft1 (AA) false, .int .i64 (AB), .bool (AC)], .pool ft6 o_ none, .obj [.map 5], .row ft2 (AF), .old ft5 (AD), .map (.int .i64) true ft2 (AE), .row ft5 o_1]) (fun o_ o_1 => K (.tuple []) [.obj [.pown 1, .ptr 2 0, .own 3, .own 6, .fz ft1 (AA) false, .int .i64 (AB), .bool (AC)], .pool ft6 o_ none, .obj [.map 5], .row ft2 (AF), .gone, .map (.int .i64) true ft2 (AE), .row ft5 o_1]) (K (.tuple []) [.obj [.pown 1, .ptr 2 0, .own 3, .own 4, .fz ft1 (AA) false, .int .i64 (AB), .bool (AC)], .pool ft6 (AG) none, .obj [.map 5], .row ft2 (AF), .row ft5 (AD), .map (.int .i64) true ft2 (AE)]) | false => none) | false => none) | false => none) | false => none) | false => none)
 | _, _ => none
theorem e37 (R : Type) (K : UV -> USt -> Option R) (fu : Nat) (at_ : Int) (stays : Bool) (AG AF AD AA : List (List D)) (AB : Int) (AC : Bool) (AE : List (D × List D)) :
  F37 fu at_ stays AG AF AD AA AB AC AE (fun o_ o_1 => K (.tuple []) [.obj [.pown 1, .ptr 2 0, .own 3, .own 6, .fz ft1 (AA) false, .int .i64 (AB), .bool (AC)], .pool ft6 o_ none, .obj [.map 5], .row ft2 (AF), .old ft5 (AD), .map (.int .i64) true ft2 (AE), .row ft5 o_1]) (fun o_ o_1 => K (.tuple []) [.obj [.pown 1, .ptr 2 0, .own 3, .own 6, .fz ft1 (AA) false, .int .i64 (AB), .bool (AC)], .pool ft6 o_ none, .obj [.map 5], .row ft2 (AF), .gone, .map (.int .i64) true ft2 (AE), .row ft5 o_1]) (K (.tuple []) [.obj [.pown 1, .ptr 2 0, .own 3, .own 4, .fz ft1 (AA) false, .int .i64 (AB), .bool (AC)], .pool ft6 (AG) none, .obj [.map 5], .row ft2 (AF), .row ft5 (AD), .map (.int .i64) true ft2 (AE)]) = ufun Try.prog ⟨(tb36 fu), pc37 fu⟩ 300 37 [.ptr 0 0, .int .i64 at_, .bool stays] [.obj [.pown 1, .ptr 2 0, .own 3, .own 4, .fz ft1 AA false, .int .i64 AB, .bool AC], .pool ft6 AG none, .obj [.map 5], .row ft2 AF, .row ft5 AD, .map (.int .i64) true ft2 AE] (funK 6 [.gc, .ownC 0 2 ft2, .ownC 0 3 ft5, .fzC 0 4 ft1, .gc] K) := (F37_eq fu _ _ _ _ _ _ _ _ _ _ _ _).trans (by kernel_rfl)
theorem s37 (fu : Nat) : Tells Try.prog 37 (t37 fu) := by
 refine ufun_sound (T := ⟨(tb36 fu), pc37 fu⟩) (m := 6) (gout := [.gc, .ownC 0 2 ft2, .ownC 0 3 ft5, .fzC 0 4 ft1, .gc]) (k := 300) (tb36_sound fu) (fun fn body hf hb => ?_) (fun R args s K r h => ?_) (fun R args s K r h => ?_)
 ·have hc : body = code37 := by
   have h1 : Try.prog.funcs[37]? = some Try.f37 := rfl
   rw [h1] at hf; cases hf
   have h2 : Try.f37.body = some code37 := rfl
   rw [h2] at hb; cases hb; rfl
  subst hc
  exact SoundPc.none _ _ _
 ·unfold t37 at h; split at h
  ·rfl
  ·cases h
 ·unfold t37 at h; split at h
  case h_2 => cases h
  iterate 5 (split at h; (case h_2 => cases h); rename_i hq; have hq := FT.sames_eq _ _ hq; subst hq)
  exact (e37 R K fu _ _ _ _ _ _ _ _ _).symm.trans h
def tb37 (fu : Nat) : FuncId -> Option (Bool × ToldF) := fun f => match Nat.beq f 37 with
 | true => some (false, ghG [.gc, .pownC 0 0 ft6, .ownC 0 2 ft2, .ownC 0 3 ft5, .fzC 0 4 ft1, .gc] (t37 fu))
 | false => (tb36 fu) f
theorem tb37_sound (fu : Nat) : SoundF' Try.prog (tb37 fu) := by
 intro f own told h
 unfold tb37 at h
 split at h
 ·rename_i hb
  cases h
  have := Nat.eq_of_beq_eq_true hb
  subst this
  exact ghG_sound (s37 fu)
 ·exact (tb36_sound fu) f own told h
def code39 : Code := match Try.f39.body with | some c => c | none => .skip
theorem a39_10 : codeAt code39 10 = some (.loop (loopBody (codeAt code39 10))) := by kernel_rfl
def F39_10 {R : Type} (fu : Nat) (x : Int) : Nat -> Int -> (List (List D)) -> Bool -> (List (List D)) -> ((List (List D)) -> (List (List D)) -> Option R) -> ((List (List D)) -> Bool -> (List (List D)) -> Option R) -> Option R
 | 0, _, _, _, _, _, _ => none
 | n + 1, x1, w, w2, y, k0, k1 => bif decide (x1 < x) then bif within x1 y.length then letR (elem x1.toNat y) fun Z0 => F16 fu (cell 0 Z0).toInt (cell 1 Z0).toInt (cell 2 Z0).toRows (cell 3 Z0).toBool (cell 4 Z0).toRows (cell 5 Z0).toBool (cell 6 Z0).toInt (cell 7 Z0).toInt (cell 8 Z0).toInt (cell 9 Z0).toInt (cell 10 Z0).toBool (cell 11 Z0).toInt (letD (setAt y x1.toNat [D.int (cell 0 Z0).toInt, D.int (cell 1 Z0).toInt, D.row (cell 2 Z0).toRows, D.bool (cell 3 Z0).toBool, D.row (cell 4 Z0).toRows, D.bool (cell 5 Z0).toBool, D.int (cell 6 Z0).toInt, D.int (cell 7 Z0).toInt, D.int (cell 8 Z0).toInt, D.int (cell 9 Z0).toInt, D.bool (cell 10 Z0).toBool, D.int (cell 11 Z0).toInt]) fun es1 => letR (elem x1.toNat es1) fun Z2 => F17 fu (cell 0 Z2).toInt (cell 1 Z2).toInt (cell 2 Z2).toRows (cell 3 Z2).toBool (cell 4 Z2).toRows (cell 5 Z2).toBool (cell 6 Z2).toInt (cell 7 Z2).toInt (cell 8 Z2).toInt (cell 9 Z2).toInt (cell 10 Z2).toBool (cell 11 Z2).toInt (letD (setAt es1 x1.toNat [D.int (cell 0 Z2).toInt, D.int (cell 1 Z2).toInt, D.row (cell 2 Z2).toRows, D.bool (cell 3 Z2).toBool, D.row (cell 4 Z2).toRows, D.bool (cell 5 Z2).toBool, D.int (cell 6 Z2).toInt, D.int (cell 7 Z2).toInt, D.int (cell 8 Z2).toInt, D.int (cell 9 Z2).toInt, D.bool (cell 10 Z2).toBool, D.int (cell 11 Z2).toInt]) fun es3 => bif decide ((cell 6 Z2).toInt < 0) then (k0 w es3) else bif decide (ofN (cell 4 Z0).toRows.length < (cell 6 Z2).toInt) then (k0 w es3) else bif decide ((0 : Int) <= 0 /\ 0 <= (cell 6 Z2).toInt) && upTo (cell 6 Z2).toInt (cell 4 Z0).toRows.length then bif w2 then bif decide (ofN w.length < ofN (part (cell 4 Z0).toRows 0 (cell 6 Z2).toInt.toNat).length) then (F39_10 fu x n (IntKind.i64.wrap (x1 + 1)) (part (cell 4 Z0).toRows 0 (cell 6 Z2).toInt.toNat) true es3 k0 k1) else (F39_10 fu x n (IntKind.i64.wrap (x1 + 1)) w true es3 k0 k1) else F18 fu (part (cell 4 Z0).toRows 0 (cell 6 Z2).toInt.toNat) w fun o_4 => bif !o_4 then F18 fu w (part (cell 4 Z0).toRows 0 (cell 6 Z2).toInt.toNat) fun o_5 => bif decide (ofN w.length < ofN (part (cell 4 Z0).toRows 0 (cell 6 Z2).toInt.toNat).length) then (F39_10 fu x n (IntKind.i64.wrap (x1 + 1)) (part (cell 4 Z0).toRows 0 (cell 6 Z2).toInt.toNat) (!o_5) es3 k0 k1) else (F39_10 fu x n (IntKind.i64.wrap (x1 + 1)) w (!o_5) es3 k0 k1) else bif decide (ofN w.length < ofN (part (cell 4 Z0).toRows 0 (cell 6 Z2).toInt.toNat).length) then (F39_10 fu x n (IntKind.i64.wrap (x1 + 1)) (part (cell 4 Z0).toRows 0 (cell 6 Z2).toInt.toNat) false es3 k0 k1) else (F39_10 fu x n (IntKind.i64.wrap (x1 + 1)) w false es3 k0 k1) else none)) else none else (k1 w w2 y)
def t39_10 (fu n : Nat) : ToldP := fun _ e s K => match e, s with
 | [.ptr 0 0, .pown 1, .int .i64 x, .int .i64 x1], [.obj [.pown 1, .ptr 2 0, .own 3, .own 4, .fz zq0 w false, .int .i64 w1, .bool w2], .pool zq1 y none, .obj [.map 5], .row zq2 y1, .row zq3 y2, .map (.int .i64) true zq4 y3] => (match FT.sames zq0 ft1 with | true => (match FT.sames zq1 ft6 with | true => (match FT.sames zq2 ft2 with | true => (match FT.sames zq3 ft5 with | true => (match FT.sames zq4 ft2 with | true => F39_10 fu x n x1 w w2 y (fun o_ o_1 => K .ret (unpackM (bitsM 1 0x1) [.ptr 0 0]) [.obj [.pown 1, .ptr 2 0, .own 3, .own 4, .fz ft1 o_ false, .int .i64 (w1), .bool (true)], .pool ft6 o_1 none, .obj [.map 5], .row ft2 (y1), .row ft5 (y2), .map (.int .i64) true ft2 (y3)]) (fun o_ o_1 o_2 => K (.exit 0) (unpackM (bitsM 1 0x1) [.ptr 0 0]) [.obj [.pown 1, .ptr 2 0, .own 3, .own 4, .fz ft1 o_ false, .int .i64 (w1), .bool o_1], .pool ft6 o_2 none, .obj [.map 5], .row ft2 (y1), .row ft5 (y2), .map (.int .i64) true ft2 (y3)]) | false => none) | false => none) | false => none) | false => none) | false => none)
 | _, _ => none
def pc39_10 (fu : Nat) : Nat -> Option ToldP := fun _ => none
theorem e39_10 (fu n : Nat) (R : Type) (K : VExit -> UEnv -> USt -> Option R) (x x1 : Int) (w : List (List D)) (w1 : Int) (w2 : Bool) (y y1 y2 : List (List D)) (y3 : List (D × List D)) :
  F39_10 fu x (n + 1) x1 w w2 y (fun o_ o_1 => K .ret (unpackM (bitsM 1 0x1) [.ptr 0 0]) [.obj [.pown 1, .ptr 2 0, .own 3, .own 4, .fz ft1 o_ false, .int .i64 (w1), .bool (true)], .pool ft6 o_1 none, .obj [.map 5], .row ft2 (y1), .row ft5 (y2), .map (.int .i64) true ft2 (y3)]) (fun o_ o_1 o_2 => K (.exit 0) (unpackM (bitsM 1 0x1) [.ptr 0 0]) [.obj [.pown 1, .ptr 2 0, .own 3, .own 4, .fz ft1 o_ false, .int .i64 (w1), .bool o_1], .pool ft6 o_2 none, .obj [.map 5], .row ft2 (y1), .row ft5 (y2), .map (.int .i64) true ft2 (y3)]) = uexec Try.prog (tb37 fu) 300 (pc39_10 fu) 20 (loopBody (codeAt code39 10)) (unpackM (bitsM 17 0x1c001) [.ptr 0 0, .pown 1, .int .i64 x, .int .i64 x1]) [.obj [.pown 1, .ptr 2 0, .own 3, .own 4, .fz ft1 w false, .int .i64 w1, .bool w2], .pool ft6 y none, .obj [.map 5], .row ft2 y1, .row ft5 y2, .map (.int .i64) true ft2 y3] (loopK 6 [.live (bitsM 17 0x1c001), .gc] [.live (bitsM 1 0x1), .gc] (pkP (bitsM 17 0x1c001) (t39_10 fu n)) K) := by kernel_rfl
theorem p39_10 (fu : Nat) : SoundPc Try.prog 6 code39 (pc39_10 fu) := SoundPc.none _ _ _
theorem s39_10 (fu : Nat) : ∀ n, SoundP Try.prog 6 (.loop (loopBody (codeAt code39 10))) (pkP (bitsM 17 0x1c001) (t39_10 fu n)) := by
 refine loopP_sound (gin := [.live (bitsM 17 0x1c001), .gc]) (gout := [.live (bitsM 1 0x1), .gc]) (k := 300) (tb37_sound fu) (p39_10 fu) (by decide) a39_10 (fun R e s K => ?_) (fun n R e s K r h => ?_)
 ·unfold t39_10; repeat' split
  all_goals rfl
 ·unfold t39_10 at h; split at h
  case h_2 => cases h
  iterate 5 (split at h; (case h_2 => cases h); rename_i hq; have hq := FT.sames_eq _ _ hq; subst hq)
  exact (e39_10 fu n R K _ _ _ _ _ _ _ _ _).symm.trans h
theorem a39_30 : codeAt code39 30 = some (.loop (loopBody (codeAt code39 30))) := by kernel_rfl
def F39_30 {R : Type} (fu : Nat) (x : List (List D)) (x1 : Int) (w c1 : List (List D)) (c2 : Bool) : Nat -> Int -> Bool -> (List (List D)) -> (Bool -> (List (List D)) -> Option R) -> Option R
 | 0, _, _, _, _ => none
 | n + 1, x2, w2, y, k0 => bif decide (x2 < x1) then bif within x2 x.length then bif c2 then bif decide (x2 = IntKind.i64.wrap (ofN c1.length - 1)) then (F39_30 fu x x1 w c1 c2 n (IntKind.i64.wrap (x2 + 1)) w2 y k0) else bif w2 then (F39_30 fu x x1 w c1 c2 n (IntKind.i64.wrap (x2 + 1)) true y k0) else bif decide ((cell 0 (elem x2.toNat x)).toInt < 0) then (F39_30 fu x x1 w c1 c2 n (IntKind.i64.wrap (x2 + 1)) true y k0) else bif decide (5 <= (cell 0 (elem x2.toNat x)).toInt) then (F39_30 fu x x1 w c1 c2 n (IntKind.i64.wrap (x2 + 1)) true y k0) else bif within (cell 0 (elem x2.toNat x)).toInt y.length then letR (elem (cell 0 (elem x2.toNat x)).toInt.toNat y) fun Z0 => F16 fu (cell 0 Z0).toInt (cell 1 Z0).toInt (cell 2 Z0).toRows (cell 3 Z0).toBool (cell 4 Z0).toRows (cell 5 Z0).toBool (cell 6 Z0).toInt (cell 7 Z0).toInt (cell 8 Z0).toInt (cell 9 Z0).toInt (cell 10 Z0).toBool (cell 11 Z0).toInt (letD (setAt y (cell 0 (elem x2.toNat x)).toInt.toNat [D.int (cell 0 Z0).toInt, D.int (cell 1 Z0).toInt, D.row (cell 2 Z0).toRows, D.bool (cell 3 Z0).toBool, D.row (cell 4 Z0).toRows, D.bool (cell 5 Z0).toBool, D.int (cell 6 Z0).toInt, D.int (cell 7 Z0).toInt, D.int (cell 8 Z0).toInt, D.int (cell 9 Z0).toInt, D.bool (cell 10 Z0).toBool, D.int (cell 11 Z0).toInt]) fun es1 => F18 fu (cell 4 Z0).toRows w fun o_2 => (F39_30 fu x x1 w c1 c2 n (IntKind.i64.wrap (x2 + 1)) (!o_2) es1 k0)) else none else bif w2 then (F39_30 fu x x1 w c1 c2 n (IntKind.i64.wrap (x2 + 1)) true y k0) else bif decide ((cell 0 (elem x2.toNat x)).toInt < 0) then (F39_30 fu x x1 w c1 c2 n (IntKind.i64.wrap (x2 + 1)) true y k0) else bif decide (5 <= (cell 0 (elem x2.toNat x)).toInt) then (F39_30 fu x x1 w c1 c2 n (IntKind.i64.wrap (x2 + 1)) true y k0) else bif within (cell 0 (elem x2.toNat x)).toInt y.length then letR (elem (cell 0 (elem x2.toNat x)).toInt.toNat y) fun Z3 => F16 fu (cell 0 Z3).toInt (cell 1 Z3).toInt (cell 2 Z3).toRows (cell 3 Z3).toBool (cell 4 Z3).toRows (cell 5 Z3).toBool (cell 6 Z3).toInt (cell 7 Z3).toInt (cell 8 Z3).toInt (cell 9 Z3).toInt (cell 10 Z3).toBool (cell 11 Z3).toInt (letD (setAt y (cell 0 (elem x2.toNat x)).toInt.toNat [D.int (cell 0 Z3).toInt, D.int (cell 1 Z3).toInt, D.row (cell 2 Z3).toRows, D.bool (cell 3 Z3).toBool, D.row (cell 4 Z3).toRows, D.bool (cell 5 Z3).toBool, D.int (cell 6 Z3).toInt, D.int (cell 7 Z3).toInt, D.int (cell 8 Z3).toInt, D.int (cell 9 Z3).toInt, D.bool (cell 10 Z3).toBool, D.int (cell 11 Z3).toInt]) fun es4 => F18 fu (cell 4 Z3).toRows w fun o_5 => (F39_30 fu x x1 w c1 c2 n (IntKind.i64.wrap (x2 + 1)) (!o_5) es4 k0)) else none else none else (k0 w2 y)
def t39_30 (fu n : Nat) : ToldP := fun _ e s K => match e, s with
 | [.ptr 0 0, .ptr 6 0, .fz zq0 x false, .int .i64 x1, .int .i64 x2], [.obj [.pown 1, .ptr 2 0, .own 3, .own 4, .fz zq1 w false, .int .i64 w1, .bool w2], .pool zq2 y none, .obj [.map 5], .row zq3 y1, .row zq4 y2, .map (.int .i64) true zq5 y3, .obj [.int .i64 c, .fz zq6 c1 false, .bool c2]] => (match FT.sames zq0 ft0 with | true => (match FT.sames zq1 ft1 with | true => (match FT.sames zq2 ft6 with | true => (match FT.sames zq3 ft2 with | true => (match FT.sames zq4 ft5 with | true => (match FT.sames zq5 ft2 with | true => (match FT.sames zq6 ft0 with | true => F39_30 fu x x1 w c1 c2 n x2 w2 y (fun o_ o_1 => K (.exit 2) (unpackM (bitsM 0 0x0) []) [.obj [.pown 1, .ptr 2 0, .own 3, .own 4, .fz ft1 (w) false, .int .i64 (w1), .bool o_], .pool ft6 o_1 none, .obj [.map 5], .row ft2 (y1), .row ft5 (y2), .map (.int .i64) true ft2 (y3)]) | false => none) | false => none) | false => none) | false => none) | false => none) | false => none) | false => none)
 | _, _ => none
def pc39_30 (fu : Nat) : Nat -> Option ToldP := fun _ => none
theorem e39_30 (fu n : Nat) (R : Type) (K : VExit -> UEnv -> USt -> Option R) (x : List (List D)) (x1 x2 : Int) (w : List (List D)) (w1 : Int) (w2 : Bool) (y y1 y2 : List (List D)) (y3 : List (D × List D)) (c : Int) (c1 : List (List D)) (c2 : Bool) :
  F39_30 fu x x1 w c1 c2 (n + 1) x2 w2 y (fun o_ o_1 => K (.exit 2) (unpackM (bitsM 0 0x0) []) [.obj [.pown 1, .ptr 2 0, .own 3, .own 4, .fz ft1 (w) false, .int .i64 (w1), .bool o_], .pool ft6 o_1 none, .obj [.map 5], .row ft2 (y1), .row ft5 (y2), .map (.int .i64) true ft2 (y3)]) = uexec Try.prog (tb37 fu) 300 (pc39_30 fu) 60 (loopBody (codeAt code39 30)) (unpackM (bitsM 88 0xe000000000000000000081) [.ptr 0 0, .ptr 6 0, .fz ft0 x false, .int .i64 x1, .int .i64 x2]) [.obj [.pown 1, .ptr 2 0, .own 3, .own 4, .fz ft1 w false, .int .i64 w1, .bool w2], .pool ft6 y none, .obj [.map 5], .row ft2 y1, .row ft5 y2, .map (.int .i64) true ft2 y3, .obj [.int .i64 c, .fz ft0 c1 false, .bool c2]] (loopK 6 [.live (bitsM 88 0xe000000000000000000081), .fzP 85 [] ft0, .gc, .fzC 6 1 ft0, .gc] [.live (bitsM 0 0), .gc] (pkP (bitsM 88 0xe000000000000000000081) (t39_30 fu n)) K) := by kernel_rfl
theorem p39_30 (fu : Nat) : SoundPc Try.prog 6 code39 (pc39_30 fu) := SoundPc.none _ _ _
theorem s39_30 (fu : Nat) : ∀ n, SoundP Try.prog 6 (.loop (loopBody (codeAt code39 30))) (pkP (bitsM 88 0xe000000000000000000081) (t39_30 fu n)) := by
 refine loopP_sound (gin := [.live (bitsM 88 0xe000000000000000000081), .fzP 85 [] ft0, .gc, .fzC 6 1 ft0, .gc]) (gout := [.live (bitsM 0 0), .gc]) (k := 300) (tb37_sound fu) (p39_30 fu) (by decide) a39_30 (fun R e s K => ?_) (fun n R e s K r h => ?_)
 ·unfold t39_30; repeat' split
  all_goals rfl
 ·unfold t39_30 at h; split at h
  case h_2 => cases h
  iterate 7 (split at h; (case h_2 => cases h); rename_i hq; have hq := FT.sames_eq _ _ hq; subst hq)
  exact (e39_30 fu n R K _ _ _ _ _ _ _ _ _ _ _ _ _).symm.trans h
def Fb39 {R : Type} (fu : Nat) (AG AF AD AA : List (List D)) (AB : Int) (AC : Bool) (AE : List (D × List D)) (k0 : (List (List D)) -> Bool -> (List (List D)) -> Option R) : Option R :=
 F39_10 fu (ofN AG.length) fu 0 AA AC AG (fun o_0 o_1 => (k0 o_0 true o_1)) fun o_2 o_3 o_4 => F50 fu 0 AE fun o_5 o_6 => F39_30 fu (cell 1 o_5).toRows (ofN (cell 1 o_5).toRows.length) o_2 (cell 1 o_5).toRows (cell 2 o_5).toBool fu 0 o_3 o_4 fun o_7 o_8 => (k0 o_2 o_7 o_8)
def F39 {R : Type} := shut (@Fb39 R)
theorem F39_eq {R : Type} (fu : Nat) (AG AF AD AA : List (List D)) (AB : Int) (AC : Bool) (AE : List (D × List D)) (k0 : (List (List D)) -> Bool -> (List (List D)) -> Option R) : F39 fu AG AF AD AA AB AC AE k0 = Fb39 fu AG AF AD AA AB AC AE k0 := by unfold F39; rw [shut_eq]
def pc39 (fu : Nat) : Nat -> Option ToldP := fun p => match Nat.beq p 10 with | true => some (ghP 6 [.live (bitsM 17 0x1c001), .gc] (pkP (bitsM 17 0x1c001) (t39_10 fu fu))) | false => match Nat.beq p 30 with | true => some (ghP 6 [.live (bitsM 88 0xe000000000000000000081), .fzP 85 [] ft0, .gc, .fzC 6 1 ft0, .gc] (pkP (bitsM 88 0xe000000000000000000081) (t39_30 fu fu))) | false => none
def t39 (fu : Nat) : ToldF := fun _ args s K => match args, s with
 | [.ptr 0 0], [.obj [.pown 1, .ptr 2 0, .own 3, .own 4, .fz zq0 AA false, .int .i64 AB, .bool AC], .pool zq1 AG none, .obj [.map 5], .row zq2 AF, .row zq3 AD, .map (.int .i64) true zq4 AE] => (match FT.sames zq0 ft1 with | true => (match FT.sames zq1 ft6 with | true => (match FT.sames zq2 ft2 with | true => (match FT.sames zq3 ft5 with | true => (match FT.sames zq4 ft2 with | true => F39 fu AG AF AD AA AB AC AE (fun o_ o_1 o_2 => K (.tuple []) [.obj [.pown 1, .ptr 2 0, .own 3, .own 4, .fz ft1 o_ false, .int .i64 (AB), .bool o_1], .pool ft6 o_2 none, .obj [.map 5], .row ft2 (AF), .row ft5 (AD), .map (.int .i64) true ft2 (AE)]) | false => none) | false => none) | false => none) | false => none) | false => none)
 | _, _ => none
theorem e39 (R : Type) (K : UV -> USt -> Option R) (fu : Nat) (AG AF AD AA : List (List D)) (AB : Int) (AC : Bool) (AE : List (D × List D)) :
  F39 fu AG AF AD AA AB AC AE (fun o_ o_1 o_2 => K (.tuple []) [.obj [.pown 1, .ptr 2 0, .own 3, .own 4, .fz ft1 o_ false, .int .i64 (AB), .bool o_1], .pool ft6 o_2 none, .obj [.map 5], .row ft2 (AF), .row ft5 (AD), .map (.int .i64) true ft2 (AE)]) = ufun Try.prog ⟨(tb37 fu), pc39 fu⟩ 300 39 [.ptr 0 0] [.obj [.pown 1, .ptr 2 0, .own 3, .own 4, .fz ft1 AA false, .int .i64 AB, .bool AC], .pool ft6 AG none, .obj [.map 5], .row ft2 AF, .row ft5 AD, .map (.int .i64) true ft2 AE] (funK 6 [.gc, .ownC 0 2 ft2, .ownC 0 3 ft5, .fzC 0 4 ft1, .gc] K) := (F39_eq fu _ _ _ _ _ _ _ _).trans (by kernel_rfl)
theorem s39 (fu : Nat) : Tells Try.prog 39 (t39 fu) := by
 refine ufun_sound (T := ⟨(tb37 fu), pc39 fu⟩) (m := 6) (gout := [.gc, .ownC 0 2 ft2, .ownC 0 3 ft5, .fzC 0 4 ft1, .gc]) (k := 300) (tb37_sound fu) (fun fn body hf hb => ?_) (fun R args s K r h => ?_) (fun R args s K r h => ?_)
 ·have hc : body = code39 := by
   have h1 : Try.prog.funcs[39]? = some Try.f39 := rfl
   rw [h1] at hf; cases hf
   have h2 : Try.f39.body = some code39 := rfl
   rw [h2] at hb; cases hb; rfl
  subst hc
  exact fun p told h b hb => by
   replace h : pc39 fu p = some told := h
   unfold pc39 at h
   split at h
   ·rename_i hp
    cases h
    have := Nat.eq_of_beq_eq_true hp
    subst this
    rw [a39_10] at hb
    cases hb
    exact ghP_sound (s39_10 fu _)
   ·
    split at h
    ·rename_i hp
     cases h
     have := Nat.eq_of_beq_eq_true hp
     subst this
     rw [a39_30] at hb
     cases hb
     exact ghP_sound (s39_30 fu _)
    ·
     cases h

 ·unfold t39 at h; split at h
  ·rfl
  ·cases h
 ·unfold t39 at h; split at h
  case h_2 => cases h
  iterate 5 (split at h; (case h_2 => cases h); rename_i hq; have hq := FT.sames_eq _ _ hq; subst hq)
  exact (e39 R K fu _ _ _ _ _ _ _).symm.trans h
def tb39 (fu : Nat) : FuncId -> Option (Bool × ToldF) := fun f => match Nat.beq f 39 with
 | true => some (false, ghG [.gc, .pownC 0 0 ft6, .ownC 0 2 ft2, .ownC 0 3 ft5, .fzC 0 4 ft1, .gc] (t39 fu))
 | false => (tb37 fu) f
theorem tb39_sound (fu : Nat) : SoundF' Try.prog (tb39 fu) := by
 intro f own told h
 unfold tb39 at h
 split at h
 ·rename_i hb
  cases h
  have := Nat.eq_of_beq_eq_true hb
  subst this
  exact ghG_sound (s39 fu)
 ·exact (tb37_sound fu) f own told h
def code35v : Code := match Try.f35.body with | some c => c | none => .skip
def Fb35v {R : Type} (fu : Nat) (o_ : List D) (t_l : List (D × List D)) (k0 : Int -> (List (D × List D)) -> Option R) : Option R :=
 bif decide ((cell 0 o_).toInt < 0) then (k0 1 t_l) else bif decide (3 < (cell 0 o_).toInt) then (k0 1 t_l) else bif decide ((cell 1 o_).toInt < 0) then (k0 1 t_l) else bif decide (10 <= (cell 1 o_).toInt) then (k0 1 t_l) else bif decide ((cell 0 o_).toInt = 0) then bif mhas t_l (D.int (cell 1 o_).toInt) then (k0 7 t_l) else F56 fu (cell 4 o_).toRows fun o_0 => bif !o_0 then (k0 1 t_l) else bif fits (cell 4 o_).toRows.length 8 then (k0 0 (mput t_l (D.int (cell 1 o_).toInt) [D.int 1, D.row (cell 4 o_).toRows, D.bool false])) else none else bif fits (cell 1 (mget t_l (D.int (cell 1 o_).toInt) [D.int 0, D.nil, D.bool false])).toRows.length 8 then bif !mhas t_l (D.int (cell 1 o_).toInt) then (k0 6 t_l) else bif !decide ((cell 0 (mget t_l (D.int (cell 1 o_).toInt) [D.int 0, D.nil, D.bool false])).toInt = (cell 2 o_).toInt) then (k0 11 t_l) else bif decide ((cell 0 o_).toInt = 1) then F22 fu [D.int (cell 0 (mget t_l (D.int (cell 1 o_).toInt) [D.int 0, D.nil, D.bool false])).toInt, D.row (cell 1 (mget t_l (D.int (cell 1 o_).toInt) [D.int 0, D.nil, D.bool false])).toRows, D.bool (cell 2 (mget t_l (D.int (cell 1 o_).toInt) [D.int 0, D.nil, D.bool false])).toBool] (cell 3 o_).toInt fun o_1 => bif decide (o_1 < 0) then (k0 6 t_l) else bif (cell 2 (mget t_l (D.int (cell 1 o_).toInt) [D.int 0, D.nil, D.bool false])).toBool then bif (cell 2 (mget t_l (D.int (cell 1 o_).toInt) [D.int 0, D.nil, D.bool false])).toBool then bif !decide (o_1 = IntKind.i64.wrap (ofN (cell 1 (mget t_l (D.int (cell 1 o_).toInt) [D.int 0, D.nil, D.bool false])).toRows.length - 1)) then bif decide (IntKind.i64.wrap (ofN (cell 1 (mget t_l (D.int (cell 1 o_).toInt) [D.int 0, D.nil, D.bool false])).toRows.length - 1) < 2) then (k0 9 t_l) else bif delOK (cell 1 (mget t_l (D.int (cell 1 o_).toInt) [D.int 0, D.nil, D.bool false])).toRows o_1 (IntKind.i64.wrap (o_1 + 1)) then bif (cell 2 (mget t_l (D.int (cell 1 o_).toInt) [D.int 0, D.nil, D.bool false])).toBool then (k0 0 (mput t_l (D.int (cell 1 o_).toInt) [D.int (IntKind.i64.wrap ((cell 0 (mget t_l (D.int (cell 1 o_).toInt) [D.int 0, D.nil, D.bool false])).toInt + 1)), D.row (delAt (cell 1 (mget t_l (D.int (cell 1 o_).toInt) [D.int 0, D.nil, D.bool false])).toRows o_1.toNat (IntKind.i64.wrap (o_1 + 1)).toNat), D.bool !decide (o_1 = IntKind.i64.wrap (ofN (cell 1 (mget t_l (D.int (cell 1 o_).toInt) [D.int 0, D.nil, D.bool false])).toRows.length - 1))])) else (k0 0 (mput t_l (D.int (cell 1 o_).toInt) [D.int (IntKind.i64.wrap ((cell 0 (mget t_l (D.int (cell 1 o_).toInt) [D.int 0, D.nil, D.bool false])).toInt + 1)), D.row (delAt (cell 1 (mget t_l (D.int (cell 1 o_).toInt) [D.int 0, D.nil, D.bool false])).toRows o_1.toNat (IntKind.i64.wrap (o_1 + 1)).toNat), D.bool false])) else none else bif delOK (cell 1 (mget t_l (D.int (cell 1 o_).toInt) [D.int 0, D.nil, D.bool false])).toRows o_1 (IntKind.i64.wrap (o_1 + 1)) then bif (cell 2 (mget t_l (D.int (cell 1 o_).toInt) [D.int 0, D.nil, D.bool false])).toBool then (k0 0 (mput t_l (D.int (cell 1 o_).toInt) [D.int (IntKind.i64.wrap ((cell 0 (mget t_l (D.int (cell 1 o_).toInt) [D.int 0, D.nil, D.bool false])).toInt + 1)), D.row (delAt (cell 1 (mget t_l (D.int (cell 1 o_).toInt) [D.int 0, D.nil, D.bool false])).toRows o_1.toNat (IntKind.i64.wrap (o_1 + 1)).toNat), D.bool !decide (o_1 = IntKind.i64.wrap (ofN (cell 1 (mget t_l (D.int (cell 1 o_).toInt) [D.int 0, D.nil, D.bool false])).toRows.length - 1))])) else (k0 0 (mput t_l (D.int (cell 1 o_).toInt) [D.int (IntKind.i64.wrap ((cell 0 (mget t_l (D.int (cell 1 o_).toInt) [D.int 0, D.nil, D.bool false])).toInt + 1)), D.row (delAt (cell 1 (mget t_l (D.int (cell 1 o_).toInt) [D.int 0, D.nil, D.bool false])).toRows o_1.toNat (IntKind.i64.wrap (o_1 + 1)).toNat), D.bool false])) else none else bif !decide (o_1 = IntKind.i64.wrap (ofN (cell 1 (mget t_l (D.int (cell 1 o_).toInt) [D.int 0, D.nil, D.bool false])).toRows.length - 1)) then bif decide (ofN (cell 1 (mget t_l (D.int (cell 1 o_).toInt) [D.int 0, D.nil, D.bool false])).toRows.length < 2) then (k0 9 t_l) else bif delOK (cell 1 (mget t_l (D.int (cell 1 o_).toInt) [D.int 0, D.nil, D.bool false])).toRows o_1 (IntKind.i64.wrap (o_1 + 1)) then bif (cell 2 (mget t_l (D.int (cell 1 o_).toInt) [D.int 0, D.nil, D.bool false])).toBool then (k0 0 (mput t_l (D.int (cell 1 o_).toInt) [D.int (IntKind.i64.wrap ((cell 0 (mget t_l (D.int (cell 1 o_).toInt) [D.int 0, D.nil, D.bool false])).toInt + 1)), D.row (delAt (cell 1 (mget t_l (D.int (cell 1 o_).toInt) [D.int 0, D.nil, D.bool false])).toRows o_1.toNat (IntKind.i64.wrap (o_1 + 1)).toNat), D.bool !decide (o_1 = IntKind.i64.wrap (ofN (cell 1 (mget t_l (D.int (cell 1 o_).toInt) [D.int 0, D.nil, D.bool false])).toRows.length - 1))])) else (k0 0 (mput t_l (D.int (cell 1 o_).toInt) [D.int (IntKind.i64.wrap ((cell 0 (mget t_l (D.int (cell 1 o_).toInt) [D.int 0, D.nil, D.bool false])).toInt + 1)), D.row (delAt (cell 1 (mget t_l (D.int (cell 1 o_).toInt) [D.int 0, D.nil, D.bool false])).toRows o_1.toNat (IntKind.i64.wrap (o_1 + 1)).toNat), D.bool false])) else none else bif delOK (cell 1 (mget t_l (D.int (cell 1 o_).toInt) [D.int 0, D.nil, D.bool false])).toRows o_1 (IntKind.i64.wrap (o_1 + 1)) then bif (cell 2 (mget t_l (D.int (cell 1 o_).toInt) [D.int 0, D.nil, D.bool false])).toBool then (k0 0 (mput t_l (D.int (cell 1 o_).toInt) [D.int (IntKind.i64.wrap ((cell 0 (mget t_l (D.int (cell 1 o_).toInt) [D.int 0, D.nil, D.bool false])).toInt + 1)), D.row (delAt (cell 1 (mget t_l (D.int (cell 1 o_).toInt) [D.int 0, D.nil, D.bool false])).toRows o_1.toNat (IntKind.i64.wrap (o_1 + 1)).toNat), D.bool !decide (o_1 = IntKind.i64.wrap (ofN (cell 1 (mget t_l (D.int (cell 1 o_).toInt) [D.int 0, D.nil, D.bool false])).toRows.length - 1))])) else (k0 0 (mput t_l (D.int (cell 1 o_).toInt) [D.int (IntKind.i64.wrap ((cell 0 (mget t_l (D.int (cell 1 o_).toInt) [D.int 0, D.nil, D.bool false])).toInt + 1)), D.row (delAt (cell 1 (mget t_l (D.int (cell 1 o_).toInt) [D.int 0, D.nil, D.bool false])).toRows o_1.toNat (IntKind.i64.wrap (o_1 + 1)).toNat), D.bool false])) else none else bif (cell 2 (mget t_l (D.int (cell 1 o_).toInt) [D.int 0, D.nil, D.bool false])).toBool then bif decide (IntKind.i64.wrap (ofN (cell 1 (mget t_l (D.int (cell 1 o_).toInt) [D.int 0, D.nil, D.bool false])).toRows.length - 1) < 2) then (k0 9 t_l) else bif delOK (cell 1 (mget t_l (D.int (cell 1 o_).toInt) [D.int 0, D.nil, D.bool false])).toRows o_1 (IntKind.i64.wrap (o_1 + 1)) then bif (cell 2 (mget t_l (D.int (cell 1 o_).toInt) [D.int 0, D.nil, D.bool false])).toBool then (k0 0 (mput t_l (D.int (cell 1 o_).toInt) [D.int (IntKind.i64.wrap ((cell 0 (mget t_l (D.int (cell 1 o_).toInt) [D.int 0, D.nil, D.bool false])).toInt + 1)), D.row (delAt (cell 1 (mget t_l (D.int (cell 1 o_).toInt) [D.int 0, D.nil, D.bool false])).toRows o_1.toNat (IntKind.i64.wrap (o_1 + 1)).toNat), D.bool true])) else (k0 0 (mput t_l (D.int (cell 1 o_).toInt) [D.int (IntKind.i64.wrap ((cell 0 (mget t_l (D.int (cell 1 o_).toInt) [D.int 0, D.nil, D.bool false])).toInt + 1)), D.row (delAt (cell 1 (mget t_l (D.int (cell 1 o_).toInt) [D.int 0, D.nil, D.bool false])).toRows o_1.toNat (IntKind.i64.wrap (o_1 + 1)).toNat), D.bool false])) else none else bif decide (ofN (cell 1 (mget t_l (D.int (cell 1 o_).toInt) [D.int 0, D.nil, D.bool false])).toRows.length < 2) then (k0 9 t_l) else bif delOK (cell 1 (mget t_l (D.int (cell 1 o_).toInt) [D.int 0, D.nil, D.bool false])).toRows o_1 (IntKind.i64.wrap (o_1 + 1)) then bif (cell 2 (mget t_l (D.int (cell 1 o_).toInt) [D.int 0, D.nil, D.bool false])).toBool then (k0 0 (mput t_l (D.int (cell 1 o_).toInt) [D.int (IntKind.i64.wrap ((cell 0 (mget t_l (D.int (cell 1 o_).toInt) [D.int 0, D.nil, D.bool false])).toInt + 1)), D.row (delAt (cell 1 (mget t_l (D.int (cell 1 o_).toInt) [D.int 0, D.nil, D.bool false])).toRows o_1.toNat (IntKind.i64.wrap (o_1 + 1)).toNat), D.bool true])) else (k0 0 (mput t_l (D.int (cell 1 o_).toInt) [D.int (IntKind.i64.wrap ((cell 0 (mget t_l (D.int (cell 1 o_).toInt) [D.int 0, D.nil, D.bool false])).toInt + 1)), D.row (delAt (cell 1 (mget t_l (D.int (cell 1 o_).toInt) [D.int 0, D.nil, D.bool false])).toRows o_1.toNat (IntKind.i64.wrap (o_1 + 1)).toNat), D.bool false])) else none else bif decide ((cell 0 o_).toInt = 2) then F59 fu (cell 3 o_).toInt fun o_2 => bif !o_2 then (k0 1 t_l) else F22 fu [D.int (cell 0 (mget t_l (D.int (cell 1 o_).toInt) [D.int 0, D.nil, D.bool false])).toInt, D.row (cell 1 (mget t_l (D.int (cell 1 o_).toInt) [D.int 0, D.nil, D.bool false])).toRows, D.bool (cell 2 (mget t_l (D.int (cell 1 o_).toInt) [D.int 0, D.nil, D.bool false])).toBool] (cell 3 o_).toInt fun o_3 => bif decide (0 <= o_3) then (k0 7 t_l) else bif (cell 2 (mget t_l (D.int (cell 1 o_).toInt) [D.int 0, D.nil, D.bool false])).toBool then (k0 9 t_l) else bif decide (7 <= ofN (cell 1 (mget t_l (D.int (cell 1 o_).toInt) [D.int 0, D.nil, D.bool false])).toRows.length) then (k0 9 t_l) else bif fits ((cell 1 (mget t_l (D.int (cell 1 o_).toInt) [D.int 0, D.nil, D.bool false])).toRows.length + 1) 8 then (k0 0 (mput t_l (D.int (cell 1 o_).toInt) [D.int (IntKind.i64.wrap ((cell 0 (mget t_l (D.int (cell 1 o_).toInt) [D.int 0, D.nil, D.bool false])).toInt + 1)), D.row ((cell 1 (mget t_l (D.int (cell 1 o_).toInt) [D.int 0, D.nil, D.bool false])).toRows ++ [[D.int (cell 3 o_).toInt]]), D.bool true])) else none else bif !(cell 2 (mget t_l (D.int (cell 1 o_).toInt) [D.int 0, D.nil, D.bool false])).toBool then (k0 9 t_l) else F22 fu [D.int (cell 0 (mget t_l (D.int (cell 1 o_).toInt) [D.int 0, D.nil, D.bool false])).toInt, D.row (cell 1 (mget t_l (D.int (cell 1 o_).toInt) [D.int 0, D.nil, D.bool false])).toRows, D.bool (cell 2 (mget t_l (D.int (cell 1 o_).toInt) [D.int 0, D.nil, D.bool false])).toBool] (cell 3 o_).toInt fun o_4 => bif !decide (o_4 = IntKind.i64.wrap (ofN (cell 1 (mget t_l (D.int (cell 1 o_).toInt) [D.int 0, D.nil, D.bool false])).toRows.length - 1)) then (k0 9 t_l) else (k0 0 (mput t_l (D.int (cell 1 o_).toInt) [D.int (cell 0 (mget t_l (D.int (cell 1 o_).toInt) [D.int 0, D.nil, D.bool false])).toInt, D.row (cell 1 (mget t_l (D.int (cell 1 o_).toInt) [D.int 0, D.nil, D.bool false])).toRows, D.bool false])) else none
def F35v {R : Type} := shut (@Fb35v R)
theorem F35v_eq {R : Type} (fu : Nat) (o_ : List D) (t_l : List (D × List D)) (k0 : Int -> (List (D × List D)) -> Option R) : F35v fu o_ t_l k0 = Fb35v fu o_ t_l k0 := by unfold F35v; rw [shut_eq]
def pc35v (fu : Nat) : Nat -> Option ToldP := fun _ => none
def t35v (fu : Nat) : ToldF := fun _ args s K => match args, s with
 | [.ptr 0 0, .agg [.int .i64 q, .int .i64 q1, .int .i64 q2, .int .i64 q3, .fz zq0 q4 false]], [.obj [.map 1], .map (.int .i64) true zq1 t_l] => (match FT.sames zq0 ft0 with | true => (match FT.sames zq1 ft2 with | true => F35v fu [D.int q, D.int q1, D.int q2, D.int q3, D.row q4] t_l (fun o_ o_1 => K (.int .i64 o_) [.obj [.map 1], .map (.int .i64) true ft2 o_1]) | false => none) | false => none)
 | _, _ => none
theorem e35v (R : Type) (K : UV -> USt -> Option R) (fu : Nat) (q q1 q2 q3 : Int) (q4 : List (List D)) (t_l : List (D × List D)) :
  F35v fu [D.int q, D.int q1, D.int q2, D.int q3, D.row q4] t_l (fun o_ o_1 => K (.int .i64 o_) [.obj [.map 1], .map (.int .i64) true ft2 o_1]) = ufun Try.prog ⟨(tb41 fu), pc35v fu⟩ 300 35 [.ptr 0 0, .agg [.int .i64 q, .int .i64 q1, .int .i64 q2, .int .i64 q3, .fz ft0 q4 false]] [.obj [.map 1], .map (.int .i64) true ft2 t_l] (funK 2 [.gc] K) := (F35v_eq fu _ _ _).trans (by kernel_rfl)
theorem s35v (fu : Nat) : Tells Try.prog 35 (t35v fu) := by
 refine ufun_sound (T := ⟨(tb41 fu), pc35v fu⟩) (m := 2) (gout := [.gc]) (k := 300) (tb41_sound fu) (fun fn body hf hb => ?_) (fun R args s K r h => ?_) (fun R args s K r h => ?_)
 ·have hc : body = code35v := by
   have h1 : Try.prog.funcs[35]? = some Try.f35 := rfl
   rw [h1] at hf; cases hf
   have h2 : Try.f35.body = some code35v := rfl
   rw [h2] at hb; cases hb; rfl
  subst hc
  exact SoundPc.none _ _ _
 ·unfold t35v at h; split at h
  ·rfl
  ·cases h
 ·unfold t35v at h; split at h
  case h_2 => cases h
  iterate 2 (split at h; (case h_2 => cases h); rename_i hq; have hq := FT.sames_eq _ _ hq; subst hq)
  exact (e35v R K fu _ _ _ _ _ _).symm.trans h
def tb35v (fu : Nat) : FuncId -> Option (Bool × ToldF) := fun f => match Nat.beq f 35 with
 | true => some (false, ghG [.fzP 1 [4] ft0, .gc, .gc] (t35v fu))
 | false => (tb39 fu) f
theorem tb35v_sound (fu : Nat) : SoundF' Try.prog (tb35v fu) := by
 intro f own told h
 unfold tb35v at h
 split at h
 ·rename_i hb
  cases h
  have := Nat.eq_of_beq_eq_true hb
  subst this
  exact ghG_sound (s35v fu)
 ·exact (tb39_sound fu) f own told h
def code38v : Code := match Try.f38.body with | some c => c | none => .skip
def Fb38v {R : Type} (fu : Nat) (kind epoch node : Int) (AG AF AD AA : List (List D)) (AB : Int) (AC : Bool) (AE : List (D × List D)) (k0 : (List (D × List D)) -> (List (List D)) -> Option R) (k1 : (List (D × List D)) -> Option R) : Option R :=
 F35v fu [D.int kind, D.int 0, D.int epoch, D.int node, D.row []] AE fun o_0 o_1 => bif decide (o_0 = 0) then F36 fu AG AF AD AA AB AC o_1 fun o_2 => (k0 o_1 o_2) else (k1 o_1)
def F38v {R : Type} := shut (@Fb38v R)
theorem F38v_eq {R : Type} (fu : Nat) (kind epoch node : Int) (AG AF AD AA : List (List D)) (AB : Int) (AC : Bool) (AE : List (D × List D)) (k0 : (List (D × List D)) -> (List (List D)) -> Option R) (k1 : (List (D × List D)) -> Option R) : F38v fu kind epoch node AG AF AD AA AB AC AE k0 k1 = Fb38v fu kind epoch node AG AF AD AA AB AC AE k0 k1 := by unfold F38v; rw [shut_eq]
def pc38v (fu : Nat) : Nat -> Option ToldP := fun _ => none
def t38v (fu : Nat) : ToldF := fun _ args s K => match args, s with
 | [.ptr 0 0, .int .i64 kind, .int .i64 epoch, .int .i64 node], [.obj [.pown 1, .ptr 2 0, .own 3, .own 4, .fz zq0 AA false, .int .i64 AB, .bool AC], .pool zq1 AG none, .obj [.map 5], .row zq2 AF, .row zq3 AD, .map (.int .i64) true zq4 AE] => (match FT.sames zq0 ft1 with | true => (match FT.sames zq1 ft6 with | true => (match FT.sames zq2 ft2 with | true => (match FT.sames zq3 ft5 with | true => (match FT.sames zq4 ft2 with | true => F38v fu kind epoch node AG AF AD AA AB AC AE (fun o_ o_1 => K (.tuple []) [.obj [.pown 1, .ptr 2 0, .own 6, .own 4, .fz ft1 (AA) false, .int .i64 (AB), .bool (AC)], .pool ft6 (AG) none, .obj [.map 5], .gone, .row ft5 (AD), .map (.int .i64) true ft2 o_, .row ft2 o_1]) (fun o_ => K (.tuple []) [.obj [.pown 1, .ptr 2 0, .own 3, .own 4, .fz ft1 (AA) false, .int .i64 (AB), .bool (AC)], .pool ft6 (AG) none, .obj [.map 5], .row ft2 (AF), .row ft5 (AD), .map (.int .i64) true ft2 o_]) | false => none) | false => none) | false => none) | false => none) | false => none)
 | _, _ => none
theorem e38v (R : Type) (K : UV -> USt -> Option R) (fu : Nat) (kind epoch node : Int) (AG AF AD AA : List (List D)) (AB : Int) (AC : Bool) (AE : List (D × List D)) :
  F38v fu kind epoch node AG AF AD AA AB AC AE (fun o_ o_1 => K (.tuple []) [.obj [.pown 1, .ptr 2 0, .own 6, .own 4, .fz ft1 (AA) false, .int .i64 (AB), .bool (AC)], .pool ft6 (AG) none, .obj [.map 5], .gone, .row ft5 (AD), .map (.int .i64) true ft2 o_, .row ft2 o_1]) (fun o_ => K (.tuple []) [.obj [.pown 1, .ptr 2 0, .own 3, .own 4, .fz ft1 (AA) false, .int .i64 (AB), .bool (AC)], .pool ft6 (AG) none, .obj [.map 5], .row ft2 (AF), .row ft5 (AD), .map (.int .i64) true ft2 o_]) = ufun Try.prog ⟨(tb35v fu), pc38v fu⟩ 300 38 [.ptr 0 0, .int .i64 kind, .int .i64 epoch, .int .i64 node] [.obj [.pown 1, .ptr 2 0, .own 3, .own 4, .fz ft1 AA false, .int .i64 AB, .bool AC], .pool ft6 AG none, .obj [.map 5], .row ft2 AF, .row ft5 AD, .map (.int .i64) true ft2 AE] (funK 6 [.gc, .ownC 0 2 ft2, .ownC 0 3 ft5, .fzC 0 4 ft1, .gc] K) := (F38v_eq fu _ _ _ _ _ _ _ _ _ _ _ _).trans (by kernel_rfl)
theorem s38v (fu : Nat) : Tells Try.prog 38 (t38v fu) := by
 refine ufun_sound (T := ⟨(tb35v fu), pc38v fu⟩) (m := 6) (gout := [.gc, .ownC 0 2 ft2, .ownC 0 3 ft5, .fzC 0 4 ft1, .gc]) (k := 300) (tb35v_sound fu) (fun fn body hf hb => ?_) (fun R args s K r h => ?_) (fun R args s K r h => ?_)
 ·have hc : body = code38v := by
   have h1 : Try.prog.funcs[38]? = some Try.f38 := rfl
   rw [h1] at hf; cases hf
   have h2 : Try.f38.body = some code38v := rfl
   rw [h2] at hb; cases hb; rfl
  subst hc
  exact SoundPc.none _ _ _
 ·unfold t38v at h; split at h
  ·rfl
  ·cases h
 ·unfold t38v at h; split at h
  case h_2 => cases h
  iterate 5 (split at h; (case h_2 => cases h); rename_i hq; have hq := FT.sames_eq _ _ hq; subst hq)
  exact (e38v R K fu _ _ _ _ _ _ _ _ _ _).symm.trans h
def tb38v (fu : Nat) : FuncId -> Option (Bool × ToldF) := fun f => match Nat.beq f 38 with
 | true => some (false, ghG [.gc, .pownC 0 0 ft6, .ownC 0 2 ft2, .ownC 0 3 ft5, .fzC 0 4 ft1, .gc] (t38v fu))
 | false => (tb35v fu) f
theorem tb38v_sound (fu : Nat) : SoundF' Try.prog (tb38v fu) := by
 intro f own told h
 unfold tb38v at h
 split at h
 ·rename_i hb
  cases h
  have := Nat.eq_of_beq_eq_true hb
  subst this
  exact ghG_sound (s38v fu)
 ·exact (tb35v_sound fu) f own told h
abbrev ft7 : List FT := [FT.int IntKind.i64, FT.int IntKind.i64, FT.int IntKind.i64]
def code13 : Code := match Try.f13.body with | some c => c | none => .skip
theorem a13_15 : codeAt code13 15 = some (pieceOf (codeAt code13 15)) := by kernel_rfl
theorem a13_253 : codeAt code13 253 = some (pieceOf (codeAt code13 253)) := by kernel_rfl
def F13_253 {R : Type} (fu : Nat) (at_ : Int) (x : Bool) (y2 : List (List D)) (ob2 : Int) (k0 : Int -> Option R) : Option R :=
 bif x then bif decide (ofN y2.length = 0) then none else (k0 (ob2.tmod (ofN y2.length))) else (k0 at_)
def t13_253 (fu : Nat) : ToldP := fun _ e s K => match e, s with
 | [.ptr 0 0, .ptr 6 0, .int .i64 k_, .pp 1 r, .int .i64 at_, .bool x], [.obj [.pown 1, .ptr 2 0, .own 3, .own 4, .fz zq0 w false, .int .i64 w1, .bool w2], .pool zq1 y none, .obj [.map 5], .row zq2 y1, .row zq3 y2, .map (.int .i64) true zq4 y3, .obj [.int .i64 ob, .int .i64 ob1, .int .i64 ob2]] => (match FT.sames zq0 ft1 with | true => (match FT.sames zq1 ft6 with | true => (match FT.sames zq2 ft2 with | true => (match FT.sames zq3 ft5 with | true => (match FT.sames zq4 ft2 with | true => F13_253 fu at_ x y2 ob2 (fun o_ => K .normal (unpackM (bitsM 7 0x79) [.ptr 0 0, .ptr 6 0, .int .i64 (k_), .pp 1 (r), .int .i64 o_]) [.obj [.pown 1, .ptr 2 0, .own 3, .own 4, .fz ft1 (w) false, .int .i64 (w1), .bool (w2)], .pool ft6 (y) none, .obj [.map 5], .row ft2 (y1), .row ft5 (y2), .map (.int .i64) true ft2 (y3), .obj [.int .i64 (ob), .int .i64 (ob1), .int .i64 (ob2)]]) | false => none) | false => none) | false => none) | false => none) | false => none)
 | _, _ => none
def pc13_253 (fu : Nat) : Nat -> Option ToldP := fun _ => none
theorem e13_253 (fu : Nat) (R : Type) (K : VExit -> UEnv -> USt -> Option R) (k_ : Int) (r : Nat) (at_ : Int) (x : Bool) (w : List (List D)) (w1 : Int) (w2 : Bool) (y y1 y2 : List (List D)) (y3 : List (D × List D)) (ob ob1 ob2 : Int) :
  F13_253 fu at_ x y2 ob2 (fun o_ => K .normal (unpackM (bitsM 7 0x79) [.ptr 0 0, .ptr 6 0, .int .i64 (k_), .pp 1 (r), .int .i64 o_]) [.obj [.pown 1, .ptr 2 0, .own 3, .own 4, .fz ft1 (w) false, .int .i64 (w1), .bool (w2)], .pool ft6 (y) none, .obj [.map 5], .row ft2 (y1), .row ft5 (y2), .map (.int .i64) true ft2 (y3), .obj [.int .i64 (ob), .int .i64 (ob1), .int .i64 (ob2)]]) = uexec Try.prog (tb38v fu) 300 (pc13_253 fu) 253 (pieceOf (codeAt code13 253)) (unpackM (bitsM 38 0x2000000079) [.ptr 0 0, .ptr 6 0, .int .i64 k_, .pp 1 r, .int .i64 at_, .bool x]) [.obj [.pown 1, .ptr 2 0, .own 3, .own 4, .fz ft1 w false, .int .i64 w1, .bool w2], .pool ft6 y none, .obj [.map 5], .row ft2 y1, .row ft5 y2, .map (.int .i64) true ft2 y3, .obj [.int .i64 ob, .int .i64 ob1, .int .i64 ob2]] (ghK 6 [.live (bitsM 7 0x79), .gc] K) := by kernel_rfl
theorem p13_253 (fu : Nat) : SoundPc Try.prog 6 code13 (pc13_253 fu) := SoundPc.none _ _ _
theorem s13_253 (fu : Nat) : SoundP Try.prog 6 (pieceOf (codeAt code13 253)) (pkP (bitsM 38 0x2000000079) (t13_253 fu)) := by
 refine pieceP_sound (gout := [.live (bitsM 7 0x79), .gc]) (k := 300) (tb38v_sound fu) (p13_253 fu) (by decide) a13_253 (fun R e s K r h => ?_)
 unfold t13_253 at h; split at h
 case h_2 => cases h
 iterate 5 (split at h; (case h_2 => cases h); rename_i hq; have hq := FT.sames_eq _ _ hq; subst hq)
 exact (e13_253 fu R K _ _ _ _ _ _ _ _ _ _ _ _ _ _).symm.trans h
theorem a13_127 : codeAt code13 127 = some (pieceOf (codeAt code13 127)) := by kernel_rfl
theorem a13_65375 : codeAt code13 65375 = some (pieceOf (codeAt code13 65375)) := by kernel_rfl
theorem a13_8368123 : codeAt code13 8368123 = some (pieceOf (codeAt code13 8368123)) := by kernel_rfl
def F13_8368123 {R : Type} (fu r : Nat) (y y2 : List (List D)) (c : Int) (c1 : List (List D)) (c2 : Bool) (k0 : (List (List D)) -> (List (List D)) -> Option R) : Option R :=
 letR (elem r y) fun Z0 => F32 fu [D.int c, D.row c1, D.bool c2] (cell 0 Z0).toInt (cell 1 Z0).toInt (cell 2 Z0).toRows (cell 3 Z0).toBool (cell 4 Z0).toRows (cell 5 Z0).toBool (cell 6 Z0).toInt (cell 7 Z0).toInt (cell 8 Z0).toInt (cell 9 Z0).toInt (cell 10 Z0).toBool (cell 11 Z0).toInt fun o_1 o_2 o_3 o_4 o_5 o_6 o_7 o_8 o_9 o_10 o_11 o_12 => letD (setAt y r [D.int (cell 0 Z0).toInt, D.int o_1, D.row o_2, D.bool o_3, D.row o_4, D.bool o_5, D.int o_6, D.int o_7, D.int o_8, D.int o_9, D.bool o_10, D.int o_11]) fun es13 => bif fits (y2.length + o_12.length) 72 then (k0 es13 (y2 ++ o_12)) else none
def t13_8368123 (fu : Nat) : ToldP := fun _ e s K => match e, s with
 | [.ptr 0 0, .pp 1 r, .ptr 6 0], [.obj [.pown 1, .ptr 2 0, .own 3, .own 4, .fz zq0 w false, .int .i64 w1, .bool w2], .pool zq1 y none, .obj [.map 5], .row zq2 y1, .row zq3 y2, .map (.int .i64) true zq4 y3, .obj [.int .i64 c, .fz zq5 c1 false, .bool c2]] => (match FT.sames zq0 ft1 with | true => (match FT.sames zq1 ft6 with | true => (match FT.sames zq2 ft2 with | true => (match FT.sames zq3 ft5 with | true => (match FT.sames zq4 ft2 with | true => (match FT.sames zq5 ft0 with | true => F13_8368123 fu r y y2 c c1 c2 (fun o_ o_1 => K .normal (unpackM (bitsM 1 0x1) [.ptr 0 0]) [.obj [.pown 1, .ptr 2 0, .own 3, .own 6, .fz ft1 (w) false, .int .i64 (w1), .bool (w2)], .pool ft6 o_ none, .obj [.map 5], .row ft2 (y1), .gone, .map (.int .i64) true ft2 (y3), .row ft5 o_1]) | false => none) | false => none) | false => none) | false => none) | false => none) | false => none)
 | _, _ => none
def pc13_8368123 (fu : Nat) : Nat -> Option ToldP := fun _ => none
theorem e13_8368123 (fu : Nat) (R : Type) (K : VExit -> UEnv -> USt -> Option R) (r : Nat) (w : List (List D)) (w1 : Int) (w2 : Bool) (y y1 y2 : List (List D)) (y3 : List (D × List D)) (c : Int) (c1 : List (List D)) (c2 : Bool) :
  F13_8368123 fu r y y2 c c1 c2 (fun o_ o_1 => K .normal (unpackM (bitsM 1 0x1) [.ptr 0 0]) [.obj [.pown 1, .ptr 2 0, .own 3, .own 6, .fz ft1 (w) false, .int .i64 (w1), .bool (w2)], .pool ft6 o_ none, .obj [.map 5], .row ft2 (y1), .gone, .map (.int .i64) true ft2 (y3), .row ft5 o_1]) = uexec Try.prog (tb38v fu) 300 (pc13_8368123 fu) 8368123 (pieceOf (codeAt code13 8368123)) (unpackM (bitsM 12 0x821) [.ptr 0 0, .pp 1 r, .ptr 6 0]) [.obj [.pown 1, .ptr 2 0, .own 3, .own 4, .fz ft1 w false, .int .i64 w1, .bool w2], .pool ft6 y none, .obj [.map 5], .row ft2 y1, .row ft5 y2, .map (.int .i64) true ft2 y3, .obj [.int .i64 c, .fz ft0 c1 false, .bool c2]] (ghK 6 [.live (bitsM 1 0x1), .gc] K) := by kernel_rfl
theorem p13_8368123 (fu : Nat) : SoundPc Try.prog 6 code13 (pc13_8368123 fu) := SoundPc.none _ _ _
theorem s13_8368123 (fu : Nat) : SoundP Try.prog 6 (pieceOf (codeAt code13 8368123)) (pkP (bitsM 12 0x821) (t13_8368123 fu)) := by
 refine pieceP_sound (gout := [.live (bitsM 1 0x1), .gc]) (k := 300) (tb38v_sound fu) (p13_8368123 fu) (by decide) a13_8368123 (fun R e s K r h => ?_)
 unfold t13_8368123 at h; split at h
 case h_2 => cases h
 iterate 6 (split at h; (case h_2 => cases h); rename_i hq; have hq := FT.sames_eq _ _ hq; subst hq)
 exact (e13_8368123 fu R K _ _ _ _ _ _ _ _ _ _ _).symm.trans h
def F13_65375 {R : Type} (fu : Nat) (k_ : Int) (r : Nat) (at_ x : Int) (x1 : Bool) (w : List (List D)) (w1 : Int) (w2 : Bool) (y y1 y2 : List (List D)) (y3 : List (D × List D)) (ob ob2 newest : Int) (newest1 : List (List D)) (newest2 : Bool) (k0 k1 : (List (List D)) -> (List (List D)) -> Option R) (k2 : (List (List D)) -> (List (D × List D)) -> Option R) (k3 : (List (List D)) -> Option R) (k4 : (List (List D)) -> (List (D × List D)) -> (List (List D)) -> Option R) : Option R :=
 bif x1 then bif decide (0 <= at_) then bif decide (ob = 3) then F37 fu at_ (decide (ofN y2.length < 300)) y y1 y2 w w1 w2 y3 (fun o_0 o_1 => (k0 o_0 o_1)) (fun o_2 o_3 => (k1 o_2 o_3)) ((k2 y y3)) else F37 fu at_ false y y1 y2 w w1 w2 y3 (fun o_4 o_5 => (k0 o_4 o_5)) (fun o_6 o_7 => (k1 o_6 o_7)) ((k2 y y3)) else (k2 y y3) else bif decide (x = 4) then bif decide (0 <= at_) then bif decide ((0 : Int) <= 0 /\ 0 <= at_) && upTo at_ y2.length then bif fits (0 + (part y2 0 at_.toNat).length) 72 then bif decide (0 <= IntKind.i64.wrap (at_ + 1) /\ IntKind.i64.wrap (at_ + 1) <= ofN y2.length) && upTo (ofN y2.length) y2.length then bif fits ((part y2 0 at_.toNat).length + (part y2 (IntKind.i64.wrap (at_ + 1)).toNat (ofN y2.length).toNat).length) 72 then (k0 y (part y2 0 at_.toNat ++ part y2 (IntKind.i64.wrap (at_ + 1)).toNat (ofN y2.length).toNat)) else none else none else none else none else (k2 y y3) else bif decide (x = 5) then bif decide (0 <= ob2) then bif decide (ofN y1.length = 0) then none else bif within (ob2.tmod (ofN y1.length)) y1.length then F13_8368123 fu r y y2 (cell 0 (elem (ob2.tmod (ofN y1.length)).toNat y1)).toInt (cell 1 (elem (ob2.tmod (ofN y1.length)).toNat y1)).toRows (cell 2 (elem (ob2.tmod (ofN y1.length)).toNat y1)).toBool fun o_8 o_9 => (k1 o_8 o_9) else none else F13_8368123 fu r y y2 newest newest1 newest2 fun o_10 o_11 => (k1 o_10 o_11) else bif decide (x = 6) then letR (elem r y) fun Z12 => F20 fu (cell 0 Z12).toInt (cell 1 Z12).toInt (cell 2 Z12).toRows (cell 3 Z12).toBool (cell 4 Z12).toRows (cell 5 Z12).toBool (cell 6 Z12).toInt (cell 7 Z12).toInt (cell 8 Z12).toInt (cell 9 Z12).toInt (cell 10 Z12).toBool (cell 11 Z12).toInt fun o_13 => letD (setAt y r [D.int (cell 0 Z12).toInt, D.int (cell 1 Z12).toInt, D.row (cell 2 Z12).toRows, D.bool (cell 3 Z12).toBool, D.row (cell 4 Z12).toRows, D.bool (cell 5 Z12).toBool, D.int (cell 6 Z12).toInt, D.int (cell 7 Z12).toInt, D.int (cell 8 Z12).toInt, D.int (cell 9 Z12).toInt, D.bool (cell 10 Z12).toBool, D.int (cell 11 Z12).toInt]) fun es14 => F29 fu k_ [D.int (cell 0 o_13).toInt, D.row (cell 1 o_13).toRows, D.bool (cell 2 o_13).toBool, D.row (cell 3 o_13).toRows] fun o_15 o_16 o_17 o_18 => bif within k_ es14.length then bif within k_ (setAt es14 k_.toNat [D.int k_, D.int o_15, D.row o_16, D.bool o_17, D.row o_18, D.bool false, D.int 0, D.int 0, D.int 0, D.int 0, D.bool false, D.int 0]).length then (k3 (setAt es14 k_.toNat [D.int k_, D.int o_15, D.row o_16, D.bool o_17, D.row o_18, D.bool false, D.int 0, D.int 0, D.int 0, D.int 0, D.bool false, D.int 0])) else none else none else bif decide (x = 7) then F38v fu 1 newest k_ y y1 y2 w w1 w2 y3 (fun o_19 o_20 => (k4 y o_19 o_20)) fun o_21 => (k2 y o_21) else bif decide (x = 8) then F38v fu 2 newest k_ y y1 y2 w w1 w2 y3 (fun o_22 o_23 => (k4 y o_22 o_23)) fun o_24 => (k2 y o_24) else bif decide (x = 9) then letR (elem r y) fun Z25 => F27 fu (cell 0 Z25).toInt (cell 1 Z25).toInt (cell 2 Z25).toRows (cell 3 Z25).toBool (cell 4 Z25).toRows (cell 5 Z25).toBool (cell 6 Z25).toInt (cell 7 Z25).toInt (cell 8 Z25).toInt (cell 9 Z25).toInt (cell 10 Z25).toBool (cell 11 Z25).toInt fun o_26 => letD (setAt y r [D.int (cell 0 Z25).toInt, D.int (cell 1 Z25).toInt, D.row (cell 2 Z25).toRows, D.bool (cell 3 Z25).toBool, D.row (cell 4 Z25).toRows, D.bool (cell 5 Z25).toBool, D.int (cell 6 Z25).toInt, D.int (cell 7 Z25).toInt, D.int (cell 8 Z25).toInt, D.int (cell 9 Z25).toInt, D.bool (cell 10 Z25).toBool, D.int (cell 11 Z25).toInt]) fun es27 => bif o_26 then letR (elem r es27) fun Z28 => F19 fu (cell 0 Z28).toInt (cell 1 Z28).toInt (cell 2 Z28).toRows (cell 3 Z28).toBool (cell 4 Z28).toRows (cell 5 Z28).toBool (cell 6 Z28).toInt (cell 7 Z28).toInt (cell 8 Z28).toInt (cell 9 Z28).toInt (cell 10 Z28).toBool (cell 11 Z28).toInt (letD (setAt es27 r [D.int (cell 0 Z28).toInt, D.int (cell 1 Z28).toInt, D.row (cell 2 Z28).toRows, D.bool (cell 3 Z28).toBool, D.row (cell 4 Z28).toRows, D.bool (cell 5 Z28).toBool, D.int (cell 6 Z28).toInt, D.int (cell 7 Z28).toInt, D.int (cell 8 Z28).toInt, D.int (cell 9 Z28).toInt, D.bool (cell 10 Z28).toBool, D.int (cell 11 Z28).toInt]) fun es29 => F38v fu 3 (cell 1 Z28).toInt k_ es29 y1 y2 w w1 w2 y3 (fun o_30 o_31 => (k4 es29 o_30 o_31)) fun o_32 => (k2 es29 o_32)) else (k2 es27 y3) else (k2 y y3)
def t13_65375 (fu : Nat) : ToldP := fun _ e s K => match e, s with
 | [.ptr 0 0, .ptr 6 0, .int .i64 k_, .pp 1 r, .int .i64 at_, .ptr 7 0, .int .i64 x, .bool x1], [.obj [.pown 1, .ptr 2 0, .own 3, .own 4, .fz zq0 w false, .int .i64 w1, .bool w2], .pool zq1 y none, .obj [.map 5], .row zq2 y1, .row zq3 y2, .map (.int .i64) true zq4 y3, .obj [.int .i64 ob, .int .i64 ob1, .int .i64 ob2], .obj [.int .i64 newest, .fz zq5 newest1 false, .bool newest2]] => (match FT.sames zq0 ft1 with | true => (match FT.sames zq1 ft6 with | true => (match FT.sames zq2 ft2 with | true => (match FT.sames zq3 ft5 with | true => (match FT.sames zq4 ft2 with | true => (match FT.sames zq5 ft0 with | true => F13_65375 fu k_ r at_ x x1 w w1 w2 y y1 y2 y3 ob ob2 newest newest1 newest2 (fun o_ o_1 => K .normal (unpackM (bitsM 1 0x1) [.ptr 0 0]) [.obj [.pown 1, .ptr 2 0, .own 3, .own 6, .fz ft1 (w) false, .int .i64 (w1), .bool (w2)], .pool ft6 o_ none, .obj [.map 5], .row ft2 (y1), .old ft5 (y2), .map (.int .i64) true ft2 (y3), .row ft5 o_1]) (fun o_ o_1 => K .normal (unpackM (bitsM 1 0x1) [.ptr 0 0]) [.obj [.pown 1, .ptr 2 0, .own 3, .own 6, .fz ft1 (w) false, .int .i64 (w1), .bool (w2)], .pool ft6 o_ none, .obj [.map 5], .row ft2 (y1), .gone, .map (.int .i64) true ft2 (y3), .row ft5 o_1]) (fun o_ o_1 => K .normal (unpackM (bitsM 1 0x1) [.ptr 0 0]) [.obj [.pown 1, .ptr 2 0, .own 3, .own 4, .fz ft1 (w) false, .int .i64 (w1), .bool (w2)], .pool ft6 o_ none, .obj [.map 5], .row ft2 (y1), .row ft5 (y2), .map (.int .i64) true ft2 o_1]) (fun o_ => K .normal (unpackM (bitsM 1 0x1) [.ptr 0 0]) [.obj [.pown 6, .ptr 2 0, .own 3, .own 4, .fz ft1 (w) false, .int .i64 (w1), .bool (w2)], .gone, .obj [.map 5], .row ft2 (y1), .row ft5 (y2), .map (.int .i64) true ft2 (y3), .pool ft6 o_ none]) (fun o_ o_1 o_2 => K .normal (unpackM (bitsM 1 0x1) [.ptr 0 0]) [.obj [.pown 1, .ptr 2 0, .own 6, .own 4, .fz ft1 (w) false, .int .i64 (w1), .bool (w2)], .pool ft6 o_ none, .obj [.map 5], .gone, .row ft5 (y2), .map (.int .i64) true ft2 o_1, .row ft2 o_2]) | false => none) | false => none) | false => none) | false => none) | false => none) | false => none)
 | _, _ => none
def pc13_65375 (fu : Nat) : Nat -> Option ToldP := fun p => match Nat.beq p 8368123 with | true => some (ghP 6 [.live (bitsM 12 0x821), .gc, .fzC 6 1 ft0, .gc] (pkP (bitsM 12 0x821) (t13_8368123 fu))) | false => none
theorem e13_65375 (fu : Nat) (R : Type) (K : VExit -> UEnv -> USt -> Option R) (k_ : Int) (r : Nat) (at_ x : Int) (x1 : Bool) (w : List (List D)) (w1 : Int) (w2 : Bool) (y y1 y2 : List (List D)) (y3 : List (D × List D)) (ob ob1 ob2 newest : Int) (newest1 : List (List D)) (newest2 : Bool) :
  F13_65375 fu k_ r at_ x x1 w w1 w2 y y1 y2 y3 ob ob2 newest newest1 newest2 (fun o_ o_1 => K .normal (unpackM (bitsM 1 0x1) [.ptr 0 0]) [.obj [.pown 1, .ptr 2 0, .own 3, .own 6, .fz ft1 (w) false, .int .i64 (w1), .bool (w2)], .pool ft6 o_ none, .obj [.map 5], .row ft2 (y1), .old ft5 (y2), .map (.int .i64) true ft2 (y3), .row ft5 o_1]) (fun o_ o_1 => K .normal (unpackM (bitsM 1 0x1) [.ptr 0 0]) [.obj [.pown 1, .ptr 2 0, .own 3, .own 6, .fz ft1 (w) false, .int .i64 (w1), .bool (w2)], .pool ft6 o_ none, .obj [.map 5], .row ft2 (y1), .gone, .map (.int .i64) true ft2 (y3), .row ft5 o_1]) (fun o_ o_1 => K .normal (unpackM (bitsM 1 0x1) [.ptr 0 0]) [.obj [.pown 1, .ptr 2 0, .own 3, .own 4, .fz ft1 (w) false, .int .i64 (w1), .bool (w2)], .pool ft6 o_ none, .obj [.map 5], .row ft2 (y1), .row ft5 (y2), .map (.int .i64) true ft2 o_1]) (fun o_ => K .normal (unpackM (bitsM 1 0x1) [.ptr 0 0]) [.obj [.pown 6, .ptr 2 0, .own 3, .own 4, .fz ft1 (w) false, .int .i64 (w1), .bool (w2)], .gone, .obj [.map 5], .row ft2 (y1), .row ft5 (y2), .map (.int .i64) true ft2 (y3), .pool ft6 o_ none]) (fun o_ o_1 o_2 => K .normal (unpackM (bitsM 1 0x1) [.ptr 0 0]) [.obj [.pown 1, .ptr 2 0, .own 6, .own 4, .fz ft1 (w) false, .int .i64 (w1), .bool (w2)], .pool ft6 o_ none, .obj [.map 5], .gone, .row ft5 (y2), .map (.int .i64) true ft2 o_1, .row ft2 o_2]) = uexec Try.prog (tb38v fu) 300 (pc13_65375 fu) 65375 (pieceOf (codeAt code13 65375)) (unpackM (bitsM 127 0x400000000000000008000000000000f9) [.ptr 0 0, .ptr 6 0, .int .i64 k_, .pp 1 r, .int .i64 at_, .ptr 7 0, .int .i64 x, .bool x1]) [.obj [.pown 1, .ptr 2 0, .own 3, .own 4, .fz ft1 w false, .int .i64 w1, .bool w2], .pool ft6 y none, .obj [.map 5], .row ft2 y1, .row ft5 y2, .map (.int .i64) true ft2 y3, .obj [.int .i64 ob, .int .i64 ob1, .int .i64 ob2], .obj [.int .i64 newest, .fz ft0 newest1 false, .bool newest2]] (ghK 6 [.live (bitsM 1 0x1), .gc, .ownC 0 2 ft2, .ownC 0 3 ft5, .gc] K) := by kernel_rfl
theorem p13_65375 (fu : Nat) : SoundPc Try.prog 6 code13 (pc13_65375 fu) := fun p told h b hb => by
 replace h : pc13_65375 fu p = some told := h
 unfold pc13_65375 at h
 split at h
 ·rename_i hp
  cases h
  have := Nat.eq_of_beq_eq_true hp
  subst this
  rw [a13_8368123] at hb
  cases hb
  exact ghP_sound (s13_8368123 fu)
 ·
  cases h
theorem s13_65375 (fu : Nat) : SoundP Try.prog 6 (pieceOf (codeAt code13 65375)) (pkP (bitsM 127 0x400000000000000008000000000000f9) (t13_65375 fu)) := by
 refine pieceP_sound (gout := [.live (bitsM 1 0x1), .gc, .ownC 0 2 ft2, .ownC 0 3 ft5, .gc]) (k := 300) (tb38v_sound fu) (p13_65375 fu) (by decide) a13_65375 (fun R e s K r h => ?_)
 unfold t13_65375 at h; split at h
 case h_2 => cases h
 iterate 6 (split at h; (case h_2 => cases h); rename_i hq; have hq := FT.sames_eq _ _ hq; subst hq)
 exact (e13_65375 fu R K _ _ _ _ _ _ _ _ _ _ _ _ _ _ _ _ _ _).symm.trans h
theorem a13_65367 : codeAt code13 65367 = some (pieceOf (codeAt code13 65367)) := by kernel_rfl
def F13_65367 {R : Type} (fu : Nat) (y2 l : List (List D)) (k0 : (List (List D)) -> Option R) : Option R :=
 bif fits (y2.length + l.length) 72 then (k0 (y2 ++ l)) else none
def t13_65367 (fu : Nat) : ToldP := fun _ e s K => match e, s with
 | [.ptr 0 0, .own 6], [.obj [.pown 1, .ptr 2 0, .own 3, .own 4, .fz zq0 w false, .int .i64 w1, .bool w2], .pool zq1 y none, .obj [.map 5], .row zq2 y1, .row zq3 y2, .map (.int .i64) true zq4 y3, .row zq5 l] => (match FT.sames zq0 ft1 with | true => (match FT.sames zq1 ft6 with | true => (match FT.sames zq2 ft2 with | true => (match FT.sames zq3 ft5 with | true => (match FT.sames zq4 ft2 with | true => (match FT.sames zq5 ft5 with | true => F13_65367 fu y2 l (fun o_ => K .normal (unpackM (bitsM 1 0x1) [.ptr 0 0]) [.obj [.pown 1, .ptr 2 0, .own 3, .own 6, .fz ft1 (w) false, .int .i64 (w1), .bool (w2)], .pool ft6 (y) none, .obj [.map 5], .row ft2 (y1), .gone, .map (.int .i64) true ft2 (y3), .row ft5 o_]) | false => none) | false => none) | false => none) | false => none) | false => none) | false => none)
 | _, _ => none
def pc13_65367 (fu : Nat) : Nat -> Option ToldP := fun _ => none
theorem e13_65367 (fu : Nat) (R : Type) (K : VExit -> UEnv -> USt -> Option R) (w : List (List D)) (w1 : Int) (w2 : Bool) (y y1 y2 : List (List D)) (y3 : List (D × List D)) (l : List (List D)) :
  F13_65367 fu y2 l (fun o_ => K .normal (unpackM (bitsM 1 0x1) [.ptr 0 0]) [.obj [.pown 1, .ptr 2 0, .own 3, .own 6, .fz ft1 (w) false, .int .i64 (w1), .bool (w2)], .pool ft6 (y) none, .obj [.map 5], .row ft2 (y1), .gone, .map (.int .i64) true ft2 (y3), .row ft5 o_]) = uexec Try.prog (tb38v fu) 300 (pc13_65367 fu) 65367 (pieceOf (codeAt code13 65367)) (unpackM (bitsM 10 0x201) [.ptr 0 0, .own 6]) [.obj [.pown 1, .ptr 2 0, .own 3, .own 4, .fz ft1 w false, .int .i64 w1, .bool w2], .pool ft6 y none, .obj [.map 5], .row ft2 y1, .row ft5 y2, .map (.int .i64) true ft2 y3, .row ft5 l] (ghK 6 [.live (bitsM 1 0x1), .gc] K) := by kernel_rfl
theorem p13_65367 (fu : Nat) : SoundPc Try.prog 6 code13 (pc13_65367 fu) := SoundPc.none _ _ _
theorem s13_65367 (fu : Nat) : SoundP Try.prog 6 (pieceOf (codeAt code13 65367)) (pkP (bitsM 10 0x201) (t13_65367 fu)) := by
 refine pieceP_sound (gout := [.live (bitsM 1 0x1), .gc]) (k := 300) (tb38v_sound fu) (p13_65367 fu) (by decide) a13_65367 (fun R e s K r h => ?_)
 unfold t13_65367 at h; split at h
 case h_2 => cases h
 iterate 6 (split at h; (case h_2 => cases h); rename_i hq; have hq := FT.sames_eq _ _ hq; subst hq)
 exact (e13_65367 fu R K _ _ _ _ _ _ _ _).symm.trans h
def F13_127 {R : Type} (fu : Nat) (k_ : Int) (r : Nat) (at_ : Int) (w : List (List D)) (w1 : Int) (w2 : Bool) (y y1 y2 : List (List D)) (y3 : List (D × List D)) (ob ob2 : Int) (k0 : (List (List D)) -> Int -> Bool -> (List (List D)) -> (List (List D)) -> Option R) (k1 : (List (List D)) -> Bool -> (List (List D)) -> (List (List D)) -> Option R) (k2 : (List (List D)) -> Bool -> (List (List D)) -> (List (D × List D)) -> Option R) (k3 : (List (List D)) -> Bool -> (List (List D)) -> Option R) (k4 : (List (List D)) -> Bool -> (List (List D)) -> (List (D × List D)) -> (List (List D)) -> Option R) : Option R :=
 bif within (IntKind.i64.wrap (ofN y1.length - 1)) y1.length then bif decide (ob = 0) then F14 fu (IntKind.i64.wrap (w1 + 1)) fun o_0 => letR (elem r y) fun Z1 => F30 fu o_0 (cell 0 Z1).toInt (cell 1 Z1).toInt (cell 2 Z1).toRows (cell 3 Z1).toBool (cell 4 Z1).toRows (cell 5 Z1).toBool (cell 6 Z1).toInt (cell 7 Z1).toInt (cell 8 Z1).toInt (cell 9 Z1).toInt (cell 10 Z1).toBool (cell 11 Z1).toInt fun o_2 o_3 o_4 o_5 o_6 => letD (setAt y r [D.int (cell 0 Z1).toInt, D.int (cell 1 Z1).toInt, D.row (cell 2 Z1).toRows, D.bool (cell 3 Z1).toBool, D.row o_4, D.bool (cell 5 Z1).toBool, D.int o_5, D.int (cell 7 Z1).toInt, D.int (cell 8 Z1).toInt, D.int (cell 9 Z1).toInt, D.bool (cell 10 Z1).toBool, D.int (cell 11 Z1).toInt]) fun es7 => bif w2 then F13_65367 fu y2 o_6 fun o_8 => F39 fu es7 y1 o_8 w (IntKind.i64.wrap (w1 + 1)) true y3 fun o_9 o_10 o_11 => (k0 o_9 (IntKind.i64.wrap (w1 + 1)) o_10 o_11 o_8) else letR (elem r es7) fun Z12 => F23 fu (cell 0 Z12).toInt (cell 1 Z12).toInt (cell 2 Z12).toRows (cell 3 Z12).toBool (cell 4 Z12).toRows (cell 5 Z12).toBool (cell 6 Z12).toInt (cell 7 Z12).toInt (cell 8 Z12).toInt (cell 9 Z12).toInt (cell 10 Z12).toBool (cell 11 Z12).toInt fun o_13 => letD (setAt es7 r [D.int (cell 0 Z12).toInt, D.int (cell 1 Z12).toInt, D.row (cell 2 Z12).toRows, D.bool (cell 3 Z12).toBool, D.row (cell 4 Z12).toRows, D.bool (cell 5 Z12).toBool, D.int (cell 6 Z12).toInt, D.int (cell 7 Z12).toInt, D.int (cell 8 Z12).toInt, D.int (cell 9 Z12).toInt, D.bool (cell 10 Z12).toBool, D.int (cell 11 Z12).toInt]) fun es14 => bif !decide (o_3 = 0) == o_13 then F13_65367 fu y2 o_6 fun o_15 => F39 fu es14 y1 o_15 w (IntKind.i64.wrap (w1 + 1)) true y3 fun o_16 o_17 o_18 => (k0 o_16 (IntKind.i64.wrap (w1 + 1)) o_17 o_18 o_15) else bif decide (o_3 = 0) then letR (elem r es14) fun Z19 => F16 fu (cell 0 Z19).toInt (cell 1 Z19).toInt (cell 2 Z19).toRows (cell 3 Z19).toBool (cell 4 Z19).toRows (cell 5 Z19).toBool (cell 6 Z19).toInt (cell 7 Z19).toInt (cell 8 Z19).toInt (cell 9 Z19).toInt (cell 10 Z19).toBool (cell 11 Z19).toInt (letD (setAt es14 r [D.int (cell 0 Z19).toInt, D.int (cell 1 Z19).toInt, D.row (cell 2 Z19).toRows, D.bool (cell 3 Z19).toBool, D.row (cell 4 Z19).toRows, D.bool (cell 5 Z19).toBool, D.int (cell 6 Z19).toInt, D.int (cell 7 Z19).toInt, D.int (cell 8 Z19).toInt, D.int (cell 9 Z19).toInt, D.bool (cell 10 Z19).toBool, D.int (cell 11 Z19).toInt]) fun es20 => F13_65367 fu y2 o_6 fun o_21 => F39 fu es20 y1 o_21 w (IntKind.i64.wrap (w1 + 1)) (!decide (o_2 = ofN (cell 4 Z19).toRows.length)) y3 fun o_22 o_23 o_24 => (k0 o_22 (IntKind.i64.wrap (w1 + 1)) o_23 o_24 o_21)) else F13_65367 fu y2 o_6 fun o_25 => F39 fu es14 y1 o_25 w (IntKind.i64.wrap (w1 + 1)) false y3 fun o_26 o_27 o_28 => (k0 o_26 (IntKind.i64.wrap (w1 + 1)) o_27 o_28 o_25) else bif decide (ob = 1) then letR (elem r y) fun Z29 => F31 fu (cell 0 Z29).toInt (cell 1 Z29).toInt (cell 2 Z29).toRows (cell 3 Z29).toBool (cell 4 Z29).toRows (cell 5 Z29).toBool (cell 6 Z29).toInt (cell 7 Z29).toInt (cell 8 Z29).toInt (cell 9 Z29).toInt (cell 10 Z29).toBool (cell 11 Z29).toInt fun o_30 => letD (setAt y r [D.int (cell 0 Z29).toInt, D.int (cell 1 Z29).toInt, D.row (cell 2 Z29).toRows, D.bool (cell 3 Z29).toBool, D.row (cell 4 Z29).toRows, D.bool (cell 5 Z29).toBool, D.int (cell 6 Z29).toInt, D.int (cell 7 Z29).toInt, D.int (cell 8 Z29).toInt, D.int (cell 9 Z29).toInt, D.bool (cell 10 Z29).toBool, D.int (cell 11 Z29).toInt]) fun es31 => bif fits (y2.length + o_30.length) 72 then F39 fu es31 y1 (y2 ++ o_30) w w1 w2 y3 fun o_32 o_33 o_34 => (k0 o_32 w1 o_33 o_34 (y2 ++ o_30)) else none else bif decide (ob = 2) then F13_65375 fu k_ r at_ ob (decide (ob = 2)) w w1 w2 y y1 y2 y3 ob ob2 (cell 0 (elem (IntKind.i64.wrap (ofN y1.length - 1)).toNat y1)).toInt (cell 1 (elem (IntKind.i64.wrap (ofN y1.length - 1)).toNat y1)).toRows (cell 2 (elem (IntKind.i64.wrap (ofN y1.length - 1)).toNat y1)).toBool (fun o_35 o_36 => F39 fu o_35 y1 o_36 w w1 w2 y3 fun o_37 o_38 o_39 => (k1 o_37 o_38 o_39 o_36)) (fun o_40 o_41 => F39 fu o_40 y1 o_41 w w1 w2 y3 fun o_42 o_43 o_44 => (k0 o_42 w1 o_43 o_44 o_41)) (fun o_45 o_46 => F39 fu o_45 y1 y2 w w1 w2 o_46 fun o_47 o_48 o_49 => (k2 o_47 o_48 o_49 o_46)) (fun o_50 => F39 fu o_50 y1 y2 w w1 w2 y3 fun o_51 o_52 o_53 => (k3 o_51 o_52 o_53)) fun o_54 o_55 o_56 => F39 fu o_54 o_56 y2 w w1 w2 o_55 fun o_57 o_58 o_59 => (k4 o_57 o_58 o_59 o_55 o_56) else F13_65375 fu k_ r at_ ob (decide (ob = 3)) w w1 w2 y y1 y2 y3 ob ob2 (cell 0 (elem (IntKind.i64.wrap (ofN y1.length - 1)).toNat y1)).toInt (cell 1 (elem (IntKind.i64.wrap (ofN y1.length - 1)).toNat y1)).toRows (cell 2 (elem (IntKind.i64.wrap (ofN y1.length - 1)).toNat y1)).toBool (fun o_60 o_61 => F39 fu o_60 y1 o_61 w w1 w2 y3 fun o_62 o_63 o_64 => (k1 o_62 o_63 o_64 o_61)) (fun o_65 o_66 => F39 fu o_65 y1 o_66 w w1 w2 y3 fun o_67 o_68 o_69 => (k0 o_67 w1 o_68 o_69 o_66)) (fun o_70 o_71 => F39 fu o_70 y1 y2 w w1 w2 o_71 fun o_72 o_73 o_74 => (k2 o_72 o_73 o_74 o_71)) (fun o_75 => F39 fu o_75 y1 y2 w w1 w2 y3 fun o_76 o_77 o_78 => (k3 o_76 o_77 o_78)) fun o_79 o_80 o_81 => F39 fu o_79 o_81 y2 w w1 w2 o_80 fun o_82 o_83 o_84 => (k4 o_82 o_83 o_84 o_80 o_81) else none
def t13_127 (fu : Nat) : ToldP := fun _ e s K => match e, s with
 | [.ptr 0 0, .ptr 6 0, .int .i64 k_, .pp 1 r, .int .i64 at_], [.obj [.pown 1, .ptr 2 0, .own 3, .own 4, .fz zq0 w false, .int .i64 w1, .bool w2], .pool zq1 y none, .obj [.map 5], .row zq2 y1, .row zq3 y2, .map (.int .i64) true zq4 y3, .obj [.int .i64 ob, .int .i64 ob1, .int .i64 ob2]] => (match FT.sames zq0 ft1 with | true => (match FT.sames zq1 ft6 with | true => (match FT.sames zq2 ft2 with | true => (match FT.sames zq3 ft5 with | true => (match FT.sames zq4 ft2 with | true => F13_127 fu k_ r at_ w w1 w2 y y1 y2 y3 ob ob2 (fun o_ o_1 o_2 o_3 o_4 => K .normal (unpackM (bitsM 0 0x0) []) [.obj [.pown 1, .ptr 2 0, .own 3, .own 6, .fz ft1 o_ false, .int .i64 o_1, .bool o_2], .pool ft6 o_3 none, .obj [.map 5], .row ft2 (y1), .gone, .map (.int .i64) true ft2 (y3), .row ft5 o_4]) (fun o_ o_1 o_2 o_3 => K .normal (unpackM (bitsM 0 0x0) []) [.obj [.pown 1, .ptr 2 0, .own 3, .own 6, .fz ft1 o_ false, .int .i64 (w1), .bool o_1], .pool ft6 o_2 none, .obj [.map 5], .row ft2 (y1), .old ft5 (y2), .map (.int .i64) true ft2 (y3), .row ft5 o_3]) (fun o_ o_1 o_2 o_3 => K .normal (unpackM (bitsM 0 0x0) []) [.obj [.pown 1, .ptr 2 0, .own 3, .own 4, .fz ft1 o_ false, .int .i64 (w1), .bool o_1], .pool ft6 o_2 none, .obj [.map 5], .row ft2 (y1), .row ft5 (y2), .map (.int .i64) true ft2 o_3]) (fun o_ o_1 o_2 => K .normal (unpackM (bitsM 0 0x0) []) [.obj [.pown 6, .ptr 2 0, .own 3, .own 4, .fz ft1 o_ false, .int .i64 (w1), .bool o_1], .gone, .obj [.map 5], .row ft2 (y1), .row ft5 (y2), .map (.int .i64) true ft2 (y3), .pool ft6 o_2 none]) (fun o_ o_1 o_2 o_3 o_4 => K .normal (unpackM (bitsM 0 0x0) []) [.obj [.pown 1, .ptr 2 0, .own 6, .own 4, .fz ft1 o_ false, .int .i64 (w1), .bool o_1], .pool ft6 o_2 none, .obj [.map 5], .gone, .row ft5 (y2), .map (.int .i64) true ft2 o_3, .row ft2 o_4]) | false => none) | false => none) | false => none) | false => none) | false => none)
 | _, _ => none
def pc13_127 (fu : Nat) : Nat -> Option ToldP := fun p => match Nat.beq p 65375 with | true => some (ghP 6 [.live (bitsM 127 0x400000000000000008000000000000f9), .gc, .fzC 7 1 ft0, .gc] (pkP (bitsM 127 0x400000000000000008000000000000f9) (t13_65375 fu))) | false => match Nat.beq p 65367 with | true => some (ghP 6 [.live (bitsM 10 0x201), .ownP 9 [] ft5, .gc] (pkP (bitsM 10 0x201) (t13_65367 fu))) | false => none
theorem e13_127 (fu : Nat) (R : Type) (K : VExit -> UEnv -> USt -> Option R) (k_ : Int) (r : Nat) (at_ : Int) (w : List (List D)) (w1 : Int) (w2 : Bool) (y y1 y2 : List (List D)) (y3 : List (D × List D)) (ob ob1 ob2 : Int) :
  F13_127 fu k_ r at_ w w1 w2 y y1 y2 y3 ob ob2 (fun o_ o_1 o_2 o_3 o_4 => K .normal (unpackM (bitsM 0 0x0) []) [.obj [.pown 1, .ptr 2 0, .own 3, .own 6, .fz ft1 o_ false, .int .i64 o_1, .bool o_2], .pool ft6 o_3 none, .obj [.map 5], .row ft2 (y1), .gone, .map (.int .i64) true ft2 (y3), .row ft5 o_4]) (fun o_ o_1 o_2 o_3 => K .normal (unpackM (bitsM 0 0x0) []) [.obj [.pown 1, .ptr 2 0, .own 3, .own 6, .fz ft1 o_ false, .int .i64 (w1), .bool o_1], .pool ft6 o_2 none, .obj [.map 5], .row ft2 (y1), .old ft5 (y2), .map (.int .i64) true ft2 (y3), .row ft5 o_3]) (fun o_ o_1 o_2 o_3 => K .normal (unpackM (bitsM 0 0x0) []) [.obj [.pown 1, .ptr 2 0, .own 3, .own 4, .fz ft1 o_ false, .int .i64 (w1), .bool o_1], .pool ft6 o_2 none, .obj [.map 5], .row ft2 (y1), .row ft5 (y2), .map (.int .i64) true ft2 o_3]) (fun o_ o_1 o_2 => K .normal (unpackM (bitsM 0 0x0) []) [.obj [.pown 6, .ptr 2 0, .own 3, .own 4, .fz ft1 o_ false, .int .i64 (w1), .bool o_1], .gone, .obj [.map 5], .row ft2 (y1), .row ft5 (y2), .map (.int .i64) true ft2 (y3), .pool ft6 o_2 none]) (fun o_ o_1 o_2 o_3 o_4 => K .normal (unpackM (bitsM 0 0x0) []) [.obj [.pown 1, .ptr 2 0, .own 6, .own 4, .fz ft1 o_ false, .int .i64 (w1), .bool o_1], .pool ft6 o_2 none, .obj [.map 5], .gone, .row ft5 (y2), .map (.int .i64) true ft2 o_3, .row ft2 o_4]) = uexec Try.prog (tb38v fu) 300 (pc13_127 fu) 127 (pieceOf (codeAt code13 127)) (unpackM (bitsM 7 0x79) [.ptr 0 0, .ptr 6 0, .int .i64 k_, .pp 1 r, .int .i64 at_]) [.obj [.pown 1, .ptr 2 0, .own 3, .own 4, .fz ft1 w false, .int .i64 w1, .bool w2], .pool ft6 y none, .obj [.map 5], .row ft2 y1, .row ft5 y2, .map (.int .i64) true ft2 y3, .obj [.int .i64 ob, .int .i64 ob1, .int .i64 ob2]] (ghK 6 [.live (bitsM 0 0), .gc, .ownC 0 2 ft2, .ownC 0 3 ft5, .gc] K) := by kernel_rfl
theorem p13_127 (fu : Nat) : SoundPc Try.prog 6 code13 (pc13_127 fu) := fun p told h b hb => by
 replace h : pc13_127 fu p = some told := h
 unfold pc13_127 at h
 split at h
 ·rename_i hp
  cases h
  have := Nat.eq_of_beq_eq_true hp
  subst this
  rw [a13_65375] at hb
  cases hb
  exact ghP_sound (s13_65375 fu)
 ·
  split at h
  ·rename_i hp
   cases h
   have := Nat.eq_of_beq_eq_true hp
   subst this
   rw [a13_65367] at hb
   cases hb
   exact ghP_sound (s13_65367 fu)
  ·
   cases h
theorem s13_127 (fu : Nat) : SoundP Try.prog 6 (pieceOf (codeAt code13 127)) (pkP (bitsM 7 0x79) (t13_127 fu)) := by
 refine pieceP_sound (gout := [.live (bitsM 0 0), .gc, .ownC 0 2 ft2, .ownC 0 3 ft5, .gc]) (k := 300) (tb38v_sound fu) (p13_127 fu) (by decide) a13_127 (fun R e s K r h => ?_)
 unfold t13_127 at h; split at h
 case h_2 => cases h
 iterate 5 (split at h; (case h_2 => cases h); rename_i hq; have hq := FT.sames_eq _ _ hq; subst hq)
 exact (e13_127 fu R K _ _ _ _ _ _ _ _ _ _ _ _ _).symm.trans h
def F13_15 {R : Type} (fu : Nat) (k_ : Int) (w : List (List D)) (w1 : Int) (w2 : Bool) (y y1 y2 : List (List D)) (y3 : List (D × List D)) (ob ob2 : Int) (k0 : (List (List D)) -> Int -> Bool -> (List (List D)) -> (List (List D)) -> Option R) (k1 : (List (List D)) -> Bool -> (List (List D)) -> (List (List D)) -> Option R) (k2 : (List (List D)) -> Bool -> (List (List D)) -> (List (D × List D)) -> Option R) (k3 : (List (List D)) -> Bool -> (List (List D)) -> Option R) (k4 : (List (List D)) -> Bool -> (List (List D)) -> (List (D × List D)) -> (List (List D)) -> Option R) : Option R :=
 bif within k_ y.length then bif decide (0 < ofN y2.length) then F13_253 fu (-1) (decide (0 <= ob2)) y2 ob2 fun o_0 => F13_127 fu k_ k_.toNat o_0 w w1 w2 y y1 y2 y3 ob ob2 (fun o_1 o_2 o_3 o_4 o_5 => (k0 o_1 o_2 o_3 o_4 o_5)) (fun o_6 o_7 o_8 o_9 => (k1 o_6 o_7 o_8 o_9)) (fun o_10 o_11 o_12 o_13 => (k2 o_10 o_11 o_12 o_13)) (fun o_14 o_15 o_16 => (k3 o_14 o_15 o_16)) fun o_17 o_18 o_19 o_20 o_21 => (k4 o_17 o_18 o_19 o_20 o_21) else F13_253 fu (-1) false y2 ob2 fun o_22 => F13_127 fu k_ k_.toNat o_22 w w1 w2 y y1 y2 y3 ob ob2 (fun o_23 o_24 o_25 o_26 o_27 => (k0 o_23 o_24 o_25 o_26 o_27)) (fun o_28 o_29 o_30 o_31 => (k1 o_28 o_29 o_30 o_31)) (fun o_32 o_33 o_34 o_35 => (k2 o_32 o_33 o_34 o_35)) (fun o_36 o_37 o_38 => (k3 o_36 o_37 o_38)) fun o_39 o_40 o_41 o_42 o_43 => (k4 o_39 o_40 o_41 o_42 o_43) else none
def t13_15 (fu : Nat) : ToldP := fun _ e s K => match e, s with
 | [.ptr 0 0, .ptr 6 0, .int .i64 k_], [.obj [.pown 1, .ptr 2 0, .own 3, .own 4, .fz zq0 w false, .int .i64 w1, .bool w2], .pool zq1 y none, .obj [.map 5], .row zq2 y1, .row zq3 y2, .map (.int .i64) true zq4 y3, .obj [.int .i64 ob, .int .i64 ob1, .int .i64 ob2]] => (match FT.sames zq0 ft1 with | true => (match FT.sames zq1 ft6 with | true => (match FT.sames zq2 ft2 with | true => (match FT.sames zq3 ft5 with | true => (match FT.sames zq4 ft2 with | true => F13_15 fu k_ w w1 w2 y y1 y2 y3 ob ob2 (fun o_ o_1 o_2 o_3 o_4 => K .normal (unpackM (bitsM 0 0x0) []) [.obj [.pown 1, .ptr 2 0, .own 3, .own 6, .fz ft1 o_ false, .int .i64 o_1, .bool o_2], .pool ft6 o_3 none, .obj [.map 5], .row ft2 (y1), .gone, .map (.int .i64) true ft2 (y3), .row ft5 o_4]) (fun o_ o_1 o_2 o_3 => K .normal (unpackM (bitsM 0 0x0) []) [.obj [.pown 1, .ptr 2 0, .own 3, .own 6, .fz ft1 o_ false, .int .i64 (w1), .bool o_1], .pool ft6 o_2 none, .obj [.map 5], .row ft2 (y1), .old ft5 (y2), .map (.int .i64) true ft2 (y3), .row ft5 o_3]) (fun o_ o_1 o_2 o_3 => K .normal (unpackM (bitsM 0 0x0) []) [.obj [.pown 1, .ptr 2 0, .own 3, .own 4, .fz ft1 o_ false, .int .i64 (w1), .bool o_1], .pool ft6 o_2 none, .obj [.map 5], .row ft2 (y1), .row ft5 (y2), .map (.int .i64) true ft2 o_3]) (fun o_ o_1 o_2 => K .normal (unpackM (bitsM 0 0x0) []) [.obj [.pown 6, .ptr 2 0, .own 3, .own 4, .fz ft1 o_ false, .int .i64 (w1), .bool o_1], .gone, .obj [.map 5], .row ft2 (y1), .row ft5 (y2), .map (.int .i64) true ft2 (y3), .pool ft6 o_2 none]) (fun o_ o_1 o_2 o_3 o_4 => K .normal (unpackM (bitsM 0 0x0) []) [.obj [.pown 1, .ptr 2 0, .own 6, .own 4, .fz ft1 o_ false, .int .i64 (w1), .bool o_1], .pool ft6 o_2 none, .obj [.map 5], .gone, .row ft5 (y2), .map (.int .i64) true ft2 o_3, .row ft2 o_4]) | false => none) | false => none) | false => none) | false => none) | false => none)
 | _, _ => none
def pc13_15 (fu : Nat) : Nat -> Option ToldP := fun p => match Nat.beq p 253 with | true => some (ghP 6 [.live (bitsM 38 0x2000000079), .gc] (pkP (bitsM 38 0x2000000079) (t13_253 fu))) | false => match Nat.beq p 127 with | true => some (ghP 6 [.live (bitsM 7 0x79), .gc] (pkP (bitsM 7 0x79) (t13_127 fu))) | false => none
theorem e13_15 (fu : Nat) (R : Type) (K : VExit -> UEnv -> USt -> Option R) (k_ : Int) (w : List (List D)) (w1 : Int) (w2 : Bool) (y y1 y2 : List (List D)) (y3 : List (D × List D)) (ob ob1 ob2 : Int) :
  F13_15 fu k_ w w1 w2 y y1 y2 y3 ob ob2 (fun o_ o_1 o_2 o_3 o_4 => K .normal (unpackM (bitsM 0 0x0) []) [.obj [.pown 1, .ptr 2 0, .own 3, .own 6, .fz ft1 o_ false, .int .i64 o_1, .bool o_2], .pool ft6 o_3 none, .obj [.map 5], .row ft2 (y1), .gone, .map (.int .i64) true ft2 (y3), .row ft5 o_4]) (fun o_ o_1 o_2 o_3 => K .normal (unpackM (bitsM 0 0x0) []) [.obj [.pown 1, .ptr 2 0, .own 3, .own 6, .fz ft1 o_ false, .int .i64 (w1), .bool o_1], .pool ft6 o_2 none, .obj [.map 5], .row ft2 (y1), .old ft5 (y2), .map (.int .i64) true ft2 (y3), .row ft5 o_3]) (fun o_ o_1 o_2 o_3 => K .normal (unpackM (bitsM 0 0x0) []) [.obj [.pown 1, .ptr 2 0, .own 3, .own 4, .fz ft1 o_ false, .int .i64 (w1), .bool o_1], .pool ft6 o_2 none, .obj [.map 5], .row ft2 (y1), .row ft5 (y2), .map (.int .i64) true ft2 o_3]) (fun o_ o_1 o_2 => K .normal (unpackM (bitsM 0 0x0) []) [.obj [.pown 6, .ptr 2 0, .own 3, .own 4, .fz ft1 o_ false, .int .i64 (w1), .bool o_1], .gone, .obj [.map 5], .row ft2 (y1), .row ft5 (y2), .map (.int .i64) true ft2 (y3), .pool ft6 o_2 none]) (fun o_ o_1 o_2 o_3 o_4 => K .normal (unpackM (bitsM 0 0x0) []) [.obj [.pown 1, .ptr 2 0, .own 6, .own 4, .fz ft1 o_ false, .int .i64 (w1), .bool o_1], .pool ft6 o_2 none, .obj [.map 5], .gone, .row ft5 (y2), .map (.int .i64) true ft2 o_3, .row ft2 o_4]) = uexec Try.prog (tb38v fu) 300 (pc13_15 fu) 15 (pieceOf (codeAt code13 15)) (unpackM (bitsM 5 0x19) [.ptr 0 0, .ptr 6 0, .int .i64 k_]) [.obj [.pown 1, .ptr 2 0, .own 3, .own 4, .fz ft1 w false, .int .i64 w1, .bool w2], .pool ft6 y none, .obj [.map 5], .row ft2 y1, .row ft5 y2, .map (.int .i64) true ft2 y3, .obj [.int .i64 ob, .int .i64 ob1, .int .i64 ob2]] (ghK 6 [.live (bitsM 0 0), .gc, .ownC 0 2 ft2, .ownC 0 3 ft5, .gc] K) := by kernel_rfl
theorem p13_15 (fu : Nat) : SoundPc Try.prog 6 code13 (pc13_15 fu) := fun p told h b hb => by
 replace h : pc13_15 fu p = some told := h
 unfold pc13_15 at h
 split at h
 ·rename_i hp
  cases h
  have := Nat.eq_of_beq_eq_true hp
  subst this
  rw [a13_253] at hb
  cases hb
  exact ghP_sound (s13_253 fu)
 ·
  split at h
  ·rename_i hp
   cases h
   have := Nat.eq_of_beq_eq_true hp
   subst this
   rw [a13_127] at hb
   cases hb
   exact ghP_sound (s13_127 fu)
  ·
   cases h
theorem s13_15 (fu : Nat) : SoundP Try.prog 6 (pieceOf (codeAt code13 15)) (pkP (bitsM 5 0x19) (t13_15 fu)) := by
 refine pieceP_sound (gout := [.live (bitsM 0 0), .gc, .ownC 0 2 ft2, .ownC 0 3 ft5, .gc]) (k := 300) (tb38v_sound fu) (p13_15 fu) (by decide) a13_15 (fun R e s K r h => ?_)
 unfold t13_15 at h; split at h
 case h_2 => cases h
 iterate 5 (split at h; (case h_2 => cases h); rename_i hq; have hq := FT.sames_eq _ _ hq; subst hq)
 exact (e13_15 fu R K _ _ _ _ _ _ _ _ _ _ _).symm.trans h
def Fb13 {R : Type} (fu : Nat) (o_ : List D) (AG AF AD AA : List (List D)) (AB : Int) (AC : Bool) (AE : List (D × List D)) (k0 : (List (List D)) -> Int -> Bool -> (List (List D)) -> (List (List D)) -> Option R) (k1 : (List (List D)) -> Bool -> (List (List D)) -> (List (List D)) -> Option R) (k2 : (List (List D)) -> Bool -> (List (List D)) -> (List (D × List D)) -> Option R) (k3 : (List (List D)) -> Bool -> (List (List D)) -> Option R) (k4 : (List (List D)) -> Bool -> (List (List D)) -> (List (D × List D)) -> (List (List D)) -> Option R) : Option R :=
 bif decide ((cell 1 o_).toInt < 0) then F13_15 fu 0 AA AB AC AG AF AD AE (cell 0 o_).toInt (cell 2 o_).toInt (fun o_0 o_1 o_2 o_3 o_4 => (k0 o_0 o_1 o_2 o_3 o_4)) (fun o_5 o_6 o_7 o_8 => (k1 o_5 o_6 o_7 o_8)) (fun o_9 o_10 o_11 o_12 => (k2 o_9 o_10 o_11 o_12)) (fun o_13 o_14 o_15 => (k3 o_13 o_14 o_15)) fun o_16 o_17 o_18 o_19 o_20 => (k4 o_16 o_17 o_18 o_19 o_20) else bif decide (5 <= (cell 1 o_).toInt) then F13_15 fu 0 AA AB AC AG AF AD AE (cell 0 o_).toInt (cell 2 o_).toInt (fun o_21 o_22 o_23 o_24 o_25 => (k0 o_21 o_22 o_23 o_24 o_25)) (fun o_26 o_27 o_28 o_29 => (k1 o_26 o_27 o_28 o_29)) (fun o_30 o_31 o_32 o_33 => (k2 o_30 o_31 o_32 o_33)) (fun o_34 o_35 o_36 => (k3 o_34 o_35 o_36)) fun o_37 o_38 o_39 o_40 o_41 => (k4 o_37 o_38 o_39 o_40 o_41) else F13_15 fu (cell 1 o_).toInt AA AB AC AG AF AD AE (cell 0 o_).toInt (cell 2 o_).toInt (fun o_42 o_43 o_44 o_45 o_46 => (k0 o_42 o_43 o_44 o_45 o_46)) (fun o_47 o_48 o_49 o_50 => (k1 o_47 o_48 o_49 o_50)) (fun o_51 o_52 o_53 o_54 => (k2 o_51 o_52 o_53 o_54)) (fun o_55 o_56 o_57 => (k3 o_55 o_56 o_57)) fun o_58 o_59 o_60 o_61 o_62 => (k4 o_58 o_59 o_60 o_61 o_62)
def F13 {R : Type} := shut (@Fb13 R)
theorem F13_eq {R : Type} (fu : Nat) (o_ : List D) (AG AF AD AA : List (List D)) (AB : Int) (AC : Bool) (AE : List (D × List D)) (k0 : (List (List D)) -> Int -> Bool -> (List (List D)) -> (List (List D)) -> Option R) (k1 : (List (List D)) -> Bool -> (List (List D)) -> (List (List D)) -> Option R) (k2 : (List (List D)) -> Bool -> (List (List D)) -> (List (D × List D)) -> Option R) (k3 : (List (List D)) -> Bool -> (List (List D)) -> Option R) (k4 : (List (List D)) -> Bool -> (List (List D)) -> (List (D × List D)) -> (List (List D)) -> Option R) : F13 fu o_ AG AF AD AA AB AC AE k0 k1 k2 k3 k4 = Fb13 fu o_ AG AF AD AA AB AC AE k0 k1 k2 k3 k4 := by unfold F13; rw [shut_eq]
def pc13 (fu : Nat) : Nat -> Option ToldP := fun p => match Nat.beq p 15 with | true => some (ghP 6 [.live (bitsM 5 0x19), .gc] (pkP (bitsM 5 0x19) (t13_15 fu))) | false => none
def t13 (fu : Nat) : ToldF := fun _ args s K => match args, s with
 | [.ptr 0 0, .agg [.int .i64 q, .int .i64 q1, .int .i64 q2]], [.obj [.pown 1, .ptr 2 0, .own 3, .own 4, .fz zq0 AA false, .int .i64 AB, .bool AC], .pool zq1 AG none, .obj [.map 5], .row zq2 AF, .row zq3 AD, .map (.int .i64) true zq4 AE] => (match FT.sames zq0 ft1 with | true => (match FT.sames zq1 ft6 with | true => (match FT.sames zq2 ft2 with | true => (match FT.sames zq3 ft5 with | true => (match FT.sames zq4 ft2 with | true => F13 fu [D.int q, D.int q1, D.int q2] AG AF AD AA AB AC AE (fun o_ o_1 o_2 o_3 o_4 => K (.tuple []) [.obj [.pown 1, .ptr 2 0, .own 3, .own 6, .fz ft1 o_ false, .int .i64 o_1, .bool o_2], .pool ft6 o_3 none, .obj [.map 5], .row ft2 (AF), .gone, .map (.int .i64) true ft2 (AE), .row ft5 o_4]) (fun o_ o_1 o_2 o_3 => K (.tuple []) [.obj [.pown 1, .ptr 2 0, .own 3, .own 6, .fz ft1 o_ false, .int .i64 (AB), .bool o_1], .pool ft6 o_2 none, .obj [.map 5], .row ft2 (AF), .old ft5 (AD), .map (.int .i64) true ft2 (AE), .row ft5 o_3]) (fun o_ o_1 o_2 o_3 => K (.tuple []) [.obj [.pown 1, .ptr 2 0, .own 3, .own 4, .fz ft1 o_ false, .int .i64 (AB), .bool o_1], .pool ft6 o_2 none, .obj [.map 5], .row ft2 (AF), .row ft5 (AD), .map (.int .i64) true ft2 o_3]) (fun o_ o_1 o_2 => K (.tuple []) [.obj [.pown 6, .ptr 2 0, .own 3, .own 4, .fz ft1 o_ false, .int .i64 (AB), .bool o_1], .gone, .obj [.map 5], .row ft2 (AF), .row ft5 (AD), .map (.int .i64) true ft2 (AE), .pool ft6 o_2 none]) (fun o_ o_1 o_2 o_3 o_4 => K (.tuple []) [.obj [.pown 1, .ptr 2 0, .own 6, .own 4, .fz ft1 o_ false, .int .i64 (AB), .bool o_1], .pool ft6 o_2 none, .obj [.map 5], .gone, .row ft5 (AD), .map (.int .i64) true ft2 o_3, .row ft2 o_4]) | false => none) | false => none) | false => none) | false => none) | false => none)
 | _, _ => none
theorem e13 (R : Type) (K : UV -> USt -> Option R) (fu : Nat) (q q1 q2 : Int) (AG AF AD AA : List (List D)) (AB : Int) (AC : Bool) (AE : List (D × List D)) :
  F13 fu [D.int q, D.int q1, D.int q2] AG AF AD AA AB AC AE (fun o_ o_1 o_2 o_3 o_4 => K (.tuple []) [.obj [.pown 1, .ptr 2 0, .own 3, .own 6, .fz ft1 o_ false, .int .i64 o_1, .bool o_2], .pool ft6 o_3 none, .obj [.map 5], .row ft2 (AF), .gone, .map (.int .i64) true ft2 (AE), .row ft5 o_4]) (fun o_ o_1 o_2 o_3 => K (.tuple []) [.obj [.pown 1, .ptr 2 0, .own 3, .own 6, .fz ft1 o_ false, .int .i64 (AB), .bool o_1], .pool ft6 o_2 none, .obj [.map 5], .row ft2 (AF), .old ft5 (AD), .map (.int .i64) true ft2 (AE), .row ft5 o_3]) (fun o_ o_1 o_2 o_3 => K (.tuple []) [.obj [.pown 1, .ptr 2 0, .own 3, .own 4, .fz ft1 o_ false, .int .i64 (AB), .bool o_1], .pool ft6 o_2 none, .obj [.map 5], .row ft2 (AF), .row ft5 (AD), .map (.int .i64) true ft2 o_3]) (fun o_ o_1 o_2 => K (.tuple []) [.obj [.pown 6, .ptr 2 0, .own 3, .own 4, .fz ft1 o_ false, .int .i64 (AB), .bool o_1], .gone, .obj [.map 5], .row ft2 (AF), .row ft5 (AD), .map (.int .i64) true ft2 (AE), .pool ft6 o_2 none]) (fun o_ o_1 o_2 o_3 o_4 => K (.tuple []) [.obj [.pown 1, .ptr 2 0, .own 6, .own 4, .fz ft1 o_ false, .int .i64 (AB), .bool o_1], .pool ft6 o_2 none, .obj [.map 5], .gone, .row ft5 (AD), .map (.int .i64) true ft2 o_3, .row ft2 o_4]) = ufun Try.prog ⟨(tb38v fu), pc13 fu⟩ 300 13 [.ptr 0 0, .agg [.int .i64 q, .int .i64 q1, .int .i64 q2]] [.obj [.pown 1, .ptr 2 0, .own 3, .own 4, .fz ft1 AA false, .int .i64 AB, .bool AC], .pool ft6 AG none, .obj [.map 5], .row ft2 AF, .row ft5 AD, .map (.int .i64) true ft2 AE] (funK 6 [.gc, .ownC 0 2 ft2, .ownC 0 3 ft5, .fzC 0 4 ft1, .gc] K) := (F13_eq fu _ _ _ _ _ _ _ _ _ _ _ _ _).trans (by kernel_rfl)
theorem s13 (fu : Nat) : Tells Try.prog 13 (t13 fu) := by
 refine ufun_sound (T := ⟨(tb38v fu), pc13 fu⟩) (m := 6) (gout := [.gc, .ownC 0 2 ft2, .ownC 0 3 ft5, .fzC 0 4 ft1, .gc]) (k := 300) (tb38v_sound fu) (fun fn body hf hb => ?_) (fun R args s K r h => ?_) (fun R args s K r h => ?_)
 ·have hc : body = code13 := by
   have h1 : Try.prog.funcs[13]? = some Try.f13 := rfl
   rw [h1] at hf; cases hf
   have h2 : Try.f13.body = some code13 := rfl
   rw [h2] at hb; cases hb; rfl
  subst hc
  exact fun p told h b hb => by
   replace h : pc13 fu p = some told := h
   unfold pc13 at h
   split at h
   ·rename_i hp
    cases h
    have := Nat.eq_of_beq_eq_true hp
    subst this
    rw [a13_15] at hb
    cases hb
    exact ghP_sound (s13_15 fu)
   ·
    cases h

 ·unfold t13 at h; split at h
  ·rfl
  ·cases h
 ·unfold t13 at h; split at h
  case h_2 => cases h
  iterate 5 (split at h; (case h_2 => cases h); rename_i hq; have hq := FT.sames_eq _ _ hq; subst hq)
  exact (e13 R K fu _ _ _ _ _ _ _ _ _ _).symm.trans h
def tb13 (fu : Nat) : FuncId -> Option (Bool × ToldF) := fun f => match Nat.beq f 13 with
 | true => some (false, ghG [.gc, .pownC 0 0 ft6, .ownC 0 2 ft2, .ownC 0 3 ft5, .fzC 0 4 ft1, .gc] (t13 fu))
 | false => (tb38v fu) f
theorem tb13_sound (fu : Nat) : SoundF' Try.prog (tb13 fu) := by
 intro f own told h
 unfold tb13 at h
 split at h
 ·rename_i hb
  cases h
  have := Nat.eq_of_beq_eq_true hb
  subst this
  exact ghG_sound (s13 fu)
 ·exact (tb38v_sound fu) f own told h
end Go.Proofs.Ythlbahcggmbfaaa.V
end

