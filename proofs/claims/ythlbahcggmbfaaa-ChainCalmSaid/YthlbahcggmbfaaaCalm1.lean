import Derived.Test.YthlbahcggmbfaaaBase4
import Derived.Test.YthlbahcggmbfaaaChecked
import Derived.ProofKit
import Derived.KernelRfl
import Derived.Test.YthlbahcggmbfaaaRows
set_option linter.unusedVariables false
set_option linter.unusedSimpArgs false

namespace Go.Proofs.Ythlbahcggmbfaaa
theorem Try.own : ownKnob Try.prog.godebug = none := by kernel_rfl
theorem Try.laidOut : laidOutB Try.prog = true := by kernel_rfl
end Go.Proofs.Ythlbahcggmbfaaa
namespace Go.Proofs.Ythlbahcggmbfaaa
open Go.ChangeShapes Go.WideShapes Go.ChangeAt Go.RowKit
set_option maxRecDepth 100000 in
theorem Tf (law : V.pE Try.prog 5 Try.f5.params.toList) (os : Os) (started : os.Started) (H : Type) (enc : TypeId × Value -> H) :
  ReturnsInHanded {} Try.checked os 5 .any (Rows.chainCalmSpec.pre6 enc Try.prog Try.f5 Rows.chainCalmRow.domain false) (Rows.chainCalmSpec.post enc Try.prog Try.f5 false true false false) := by
 refine V.lift (C := Try.checked) enc Try.own started (by kernel_rfl) Try.func5
  (ChangeSpec.witness6 (enc := enc) (C := Try.checked) false ⟨#[], #[.int .u8 0, .slice none 0 0], []⟩ 8 (by kernel_rfl) (by kernel_rfl) (by kernel_rfl) (by kernel_rfl)) rfl (fun ds h => ?_) rfl (by kernel_rfl) Try.laidOut (by kernel_rfl) law
 have h : ds.length = 2 := h
 match ds, h with
 | [d1, d2], _ => rfl
theorem ZJ (law : V.pE Try.prog 5 Try.f5.params.toList) : Rows.ChainCalmSaid :=
 OpenClaim.holds_of_wide 5 Try.f5 rfl rfl rfl rfl rfl rfl rfl ⟨rfl, rfl, rfl, rfl, rfl⟩ rfl rfl rfl rfl rfl (by kernel_rfl) Try.func5 (by kernel_rfl)
  (of_decide_eq_true (by kernel_rfl)) (by unfold Func.isWrapper; first | (rw [if_pos (by decide +kernel)]; kernel_rfl) | (rw [if_neg (by decide +kernel)]; exact ⟨rfl, rfl⟩))
  (fun os started H enc _ => Tf law os started H enc)
end Go.Proofs.Ythlbahcggmbfaaa
namespace Go.Proofs.Ythlbahcggmbfaaa.V
set_option maxRecDepth 100000
set_option maxHeartbeats 4000000
abbrev X1 : List FT := [FT.int IntKind.i64]
theorem s54 (fu : Nat) : N3 Try.prog 54 (Bx X1 8) :=
 Km (F := (sC fu)) (k := 300) (PC fu) (fun R K => by kernel_rfl) (fun R K es => by kernel_rfl)
noncomputable def gG (fu : Nat) : FuncId -> Option (Bool × J1) := fun f => match Nat.beq f 54 with
 | true => some (false, CA [.V9 0 [] X1] (Bx X1 8))
 | false => (sC fu) f
theorem ME (fu : Nat) : C2 Try.prog (gG fu) := by
 intro f own told h
 unfold gG at h
 split at h
 ·rename_i hb
  cases h
  have := B6 hb
  subst this
  exact O1 (s54 fu)
 ·exact (PC fu) f own told h
end Go.Proofs.Ythlbahcggmbfaaa.V
namespace Go.Proofs.Ythlbahcggmbfaaa.V
set_option maxRecDepth 100000
set_option maxHeartbeats 4000000
abbrev D1 : List FT := [FT.str]
theorem s40 (fu : Nat) : N3 Try.prog 40 (Bx D1 16) :=
 Km (F := (gG fu)) (k := 300) (ME fu) (fun R K => by kernel_rfl) (fun R K es => by kernel_rfl)
noncomputable def Xv (fu : Nat) : FuncId -> Option (Bool × J1) := fun f => match Nat.beq f 40 with
 | true => some (false, CA [.V9 0 [] D1] (Bx D1 16))
 | false => (gG fu) f
theorem HJ (fu : Nat) : C2 Try.prog (Xv fu) := by
 intro f own told h
 unfold Xv at h
 split at h
 ·rename_i hb
  cases h
  have := B6 hb
  subst this
  exact O1 (s40 fu)
 ·exact (ME fu) f own told h
end Go.Proofs.Ythlbahcggmbfaaa.V
noncomputable section
namespace Go.Proofs.Ythlbahcggmbfaaa.V
set_option maxRecDepth 100000
set_option maxHeartbeats 4000000
def Hb : Code := match Try.f42.body with | some c => c | none => .skip
theorem eK : N0 Hb 26 = some (.loop (V1 (N0 Hb 26))) := by kernel_rfl
def Jn {R : Type} (fu : Nat) (s : List (List D)) (v x : Int) : Nat -> Int -> (Int -> Option R) -> (Option R) -> Option R
 | 0, _, _, _ => none
 | n + 1, x1, k0, k1 => bif decide (x1 < x) then bif within x1 s.length then bif decide (v = (cell 0 (elem x1.toNat s)).toInt) then (k0 x1) else (Jn fu s v x n (IntKind.i64.wrap (x1 + 1)) k0 k1) else none else (k1)
def Mi (fu n : Nat) : M1 := fun _ e s K => match e, s with
 | [.fz U4 s false, .int .i64 v, .int .i64 x, .int .i64 x1], [] => (match FT.F0 U4 X1 with | true => Jn fu s v x n x1 (fun o_ => K .ret (I0 (D0 5 0x10) [.int .i64 o_]) []) (K (.exit 0) (I0 (D0 5 0x0) []) []) | false => none)
 | _, _ => none
def WY (fu : Nat) : Nat -> Option M1 := fun _ => none
theorem mw (fu n : Nat) (R : Type) (K : Y2 -> R1 -> O0 -> Option R) (s : List (List D)) (v x x1 : Int) :
  Jn fu s v x (n + 1) x1 (fun o_ => K .ret (I0 (D0 5 0x10) [.int .i64 o_]) []) (K (.exit 0) (I0 (D0 5 0x0) []) []) = n4 Try.prog (Xv fu) 300 (WY fu) 52 (V1 (N0 Hb 26)) (I0 (D0 9 0x183) [.fz X1 s false, .int .i64 v, .int .i64 x, .int .i64 x1]) [] (BU 0 [.live (D0 9 0x183), .V9 0 [] X1, .gc] [.live (D0 5 0x10), .gc] (E8 (D0 9 0x183) (Mi fu n)) K) := by kernel_rfl
theorem kv (fu : Nat) : R0 Try.prog 0 Hb (WY fu) := R0.none _ _ _
theorem kZ (fu : Nat) : ∀ n, l4 Try.prog 0 (.loop (V1 (N0 Hb 26))) (E8 (D0 9 0x183) (Mi fu n)) := by
 refine H4 (gin := [.live (D0 9 0x183), .V9 0 [] X1, .gc]) (gout := [.live (D0 5 0x10), .gc]) (k := 300) (HJ fu) (kv fu) (by decide) eK (fun R e s K => ?_) (fun n R e s K r h => ?_)
 ·unfold Mi; repeat' split
  all_goals rfl
 ·unfold Mi at h; split at h
  case h_2 => cases h
  split at h
  case h_2 => cases h
  rename_i hq
  have hq := FT.J0 _ _ hq
  subst hq
  exact (mw fu n R K _ _ _ _).symm.trans h
def nb {R : Type} (fu : Nat) (s : List (List D)) (v : Int) (k0 : Int -> Option R) : Option R :=
 Jn fu s v (S1 s.length) fu 0 (fun u3 => (k0 u3)) ((k0 (-1)))
def F42 {R : Type} := shut (@nb R)
theorem ez {R : Type} (fu : Nat) (s : List (List D)) (v : Int) (k0 : Int -> Option R) : F42 fu s v k0 = nb fu s v k0 := by unfold F42; rw [O2]
def gY (fu : Nat) : Nat -> Option M1 := fun p => match Nat.beq p 26 with | true => some (Ie 0 [.live (D0 9 0x183), .V9 0 [] X1, .gc] (E8 (D0 9 0x183) (Mi fu fu))) | false => none
def t42 (fu : Nat) : J1 := fun _ args s K => match args, s with
 | [.fz U4 s false, .int .i64 v], [] => (match FT.F0 U4 X1 with | true => F42 fu s v (fun o_ => K (.int .i64 o_) []) | false => none)
 | _, _ => none
theorem e42 (R : Type) (K : UV -> O0 -> Option R) (fu : Nat) (s : List (List D)) (v : Int) :
  F42 fu s v (fun o_ => K (.int .i64 o_) []) = I6 Try.prog ⟨(Xv fu), gY fu⟩ 300 42 [.fz X1 s false, .int .i64 v] [] (W6 0 [.gc] K) := (ez fu _ _ _).trans (by kernel_rfl)
theorem s42 (fu : Nat) : N3 Try.prog 42 (t42 fu) := by
 refine y0 (T := ⟨(Xv fu), gY fu⟩) (m := 0) (gout := [.gc]) (k := 300) (HJ fu) (fun fn body hf hb => ?_) (fun R args s K r h => ?_) (fun R args s K r h => ?_)
 ·have hc : body = Hb := by
   have h1 : Try.prog.funcs[42]? = some Try.f42 := rfl
   rw [h1] at hf; cases hf
   have h2 : Try.f42.body = some Hb := rfl
   rw [h2] at hb; cases hb; rfl
  subst hc
  exact fun p told h b hb => by
   replace h : gY fu p = some told := h
   unfold gY at h
   split at h
   ·rename_i hp
    cases h
    have := B6 hp
    subst this
    rw [eK] at hb
    cases hb
    exact C3 (kZ fu _)
   ·
    cases h

 ·unfold t42 at h; split at h
  ·rfl
  ·cases h
 ·unfold t42 at h; split at h
  case h_2 => cases h
  split at h
  case h_2 => cases h
  rename_i hq
  have hq := FT.J0 _ _ hq
  subst hq
  exact (e42 R K fu _ _).symm.trans h
def aJ (fu : Nat) : FuncId -> Option (Bool × J1) := fun f => match Nat.beq f 42 with
 | true => some (false, CA [.V9 0 [] X1] (t42 fu))
 | false => (Xv fu) f
theorem ML (fu : Nat) : C2 Try.prog (aJ fu) := by
 intro f own told h
 unfold aJ at h
 split at h
 ·rename_i hb
  cases h
  have := B6 hb
  subst this
  exact O1 (s42 fu)
 ·exact (HJ fu) f own told h
end Go.Proofs.Ythlbahcggmbfaaa.V
end
noncomputable section
namespace Go.Proofs.Ythlbahcggmbfaaa.V
set_option maxRecDepth 100000
set_option maxHeartbeats 4000000
def dI : Code := match Try.f60.body with | some c => c | none => .skip
def nP {R : Type} (fu : Nat) (s : List (List D)) (v : Int) (k0 : Bool -> Option R) : Option R :=
 F42 fu s v fun u3 => (k0 (decide (0 <= u3)))
def F60 {R : Type} := shut (@nP R)
theorem eY {R : Type} (fu : Nat) (s : List (List D)) (v : Int) (k0 : Bool -> Option R) : F60 fu s v k0 = nP fu s v k0 := by unfold F60; rw [O2]
def pP (fu : Nat) : Nat -> Option M1 := fun _ => none
def t60 (fu : Nat) : J1 := fun _ args s K => match args, s with
 | [.fz U4 s false, .int .i64 v], [] => (match FT.F0 U4 X1 with | true => F60 fu s v (fun o_ => K (.bool o_) []) | false => none)
 | _, _ => none
theorem e60 (R : Type) (K : UV -> O0 -> Option R) (fu : Nat) (s : List (List D)) (v : Int) :
  F60 fu s v (fun o_ => K (.bool o_) []) = I6 Try.prog ⟨(aJ fu), pP fu⟩ 300 60 [.fz X1 s false, .int .i64 v] [] (W6 0 [.gc] K) := (eY fu _ _ _).trans (by kernel_rfl)
theorem s60 (fu : Nat) : N3 Try.prog 60 (t60 fu) := by
 refine y0 (T := ⟨(aJ fu), pP fu⟩) (m := 0) (gout := [.gc]) (k := 300) (ML fu) (fun fn body hf hb => ?_) (fun R args s K r h => ?_) (fun R args s K r h => ?_)
 ·have hc : body = dI := by
   have h1 : Try.prog.funcs[60]? = some Try.f60 := rfl
   rw [h1] at hf; cases hf
   have h2 : Try.f60.body = some dI := rfl
   rw [h2] at hb; cases hb; rfl
  subst hc
  exact R0.none _ _ _
 ·unfold t60 at h; split at h
  ·rfl
  ·cases h
 ·unfold t60 at h; split at h
  case h_2 => cases h
  split at h
  case h_2 => cases h
  rename_i hq
  have hq := FT.J0 _ _ hq
  subst hq
  exact (e60 R K fu _ _).symm.trans h
def Zz (fu : Nat) : FuncId -> Option (Bool × J1) := fun f => match Nat.beq f 60 with
 | true => some (false, CA [.V9 0 [] X1] (t60 fu))
 | false => (aJ fu) f
theorem MA (fu : Nat) : C2 Try.prog (Zz fu) := by
 intro f own told h
 unfold Zz at h
 split at h
 ·rename_i hb
  cases h
  have := B6 hb
  subst this
  exact O1 (s60 fu)
 ·exact (ML fu) f own told h
end Go.Proofs.Ythlbahcggmbfaaa.V
end
noncomputable section
namespace Go.Proofs.Ythlbahcggmbfaaa.V
set_option maxRecDepth 100000
set_option maxHeartbeats 4000000
abbrev P1 : List FT := [FT.int IntKind.i64, FT.row 8 [FT.int IntKind.i64], FT.bool]
def dh : Code := match Try.f22.body with | some c => c | none => .skip
def oA {R : Type} (fu : Nat) (c : List D) (node : Int) (k0 : Int -> Option R) : Option R :=
 F42 fu (cell 1 c).C0 node fun u3 => (k0 u3)
def F22 {R : Type} := shut (@oA R)
theorem fO {R : Type} (fu : Nat) (c : List D) (node : Int) (k0 : Int -> Option R) : F22 fu c node k0 = oA fu c node k0 := by unfold F22; rw [O2]
def pv (fu : Nat) : Nat -> Option M1 := fun _ => none
def t22 (fu : Nat) : J1 := fun _ args s K => match args, s with
 | [.agg [.int .i64 q, .fz U4 q1 false, .bool q2], .int .i64 node], [] => (match FT.F0 U4 X1 with | true => F22 fu [D.int q, D.row q1, D.bool q2] node (fun o_ => K (.int .i64 o_) []) | false => none)
 | _, _ => none
theorem e22 (R : Type) (K : UV -> O0 -> Option R) (fu : Nat) (q : Int) (q1 : List (List D)) (q2 : Bool) (node : Int) :
  F22 fu [D.int q, D.row q1, D.bool q2] node (fun o_ => K (.int .i64 o_) []) = I6 Try.prog ⟨(Zz fu), pv fu⟩ 300 22 [.agg [.int .i64 q, .fz X1 q1 false, .bool q2], .int .i64 node] [] (W6 0 [.gc] K) := (fO fu _ _ _).trans (by kernel_rfl)
theorem s22 (fu : Nat) : N3 Try.prog 22 (t22 fu) := by
 refine y0 (T := ⟨(Zz fu), pv fu⟩) (m := 0) (gout := [.gc]) (k := 300) (MA fu) (fun fn body hf hb => ?_) (fun R args s K r h => ?_) (fun R args s K r h => ?_)
 ·have hc : body = dh := by
   have h1 : Try.prog.funcs[22]? = some Try.f22 := rfl
   rw [h1] at hf; cases hf
   have h2 : Try.f22.body = some dh := rfl
   rw [h2] at hb; cases hb; rfl
  subst hc
  exact R0.none _ _ _
 ·unfold t22 at h; split at h
  ·rfl
  ·cases h
 ·unfold t22 at h; split at h
  case h_2 => cases h
  split at h
  case h_2 => cases h
  rename_i hq
  have hq := FT.J0 _ _ hq
  subst hq
  exact (e22 R K fu _ _ _ _).symm.trans h
def aW (fu : Nat) : FuncId -> Option (Bool × J1) := fun f => match Nat.beq f 22 with
 | true => some (false, CA [.V9 0 [1] X1] (t22 fu))
 | false => (Zz fu) f
theorem MY (fu : Nat) : C2 Try.prog (aW fu) := by
 intro f own told h
 unfold aW at h
 split at h
 ·rename_i hb
  cases h
  have := B6 hb
  subst this
  exact O1 (s22 fu)
 ·exact (MA fu) f own told h
end Go.Proofs.Ythlbahcggmbfaaa.V
end
noncomputable section
namespace Go.Proofs.Ythlbahcggmbfaaa.V
set_option maxRecDepth 100000
set_option maxHeartbeats 4000000
def dR : Code := match Try.f44.body with | some c => c | none => .skip
def nZ {R : Type} (fu : Nat) (c : List D) (node Nv : Int) (k0 : Int -> Option R) : Option R :=
 F22 fu [D.int (cell 0 c).toInt, D.row (cell 1 c).C0, D.bool (cell 2 c).toBool] node fun u3 => bif decide (u3 < 0) then (k0 (-1)) else bif decide (IntKind.i64.wrap (u3 + Nv) < 0) then (k0 (-1)) else bif decide (S1 (cell 1 c).C0.length <= IntKind.i64.wrap (u3 + Nv)) then (k0 (-1)) else bif within (IntKind.i64.wrap (u3 + Nv)) (cell 1 c).C0.length then (k0 ((cell 0 (elem (IntKind.i64.wrap (u3 + Nv)).toNat (cell 1 c).C0)).toInt)) else none
def F44 {R : Type} := shut (@nZ R)
theorem eu {R : Type} (fu : Nat) (c : List D) (node Nv : Int) (k0 : Int -> Option R) : F44 fu c node Nv k0 = nZ fu c node Nv k0 := by unfold F44; rw [O2]
def pY (fu : Nat) : Nat -> Option M1 := fun _ => none
def t44 (fu : Nat) : J1 := fun _ args s K => match args, s with
 | [.agg [.int .i64 q, .fz U4 q1 false, .bool q2], .int .i64 node, .int .i64 Nv], [] => (match FT.F0 U4 X1 with | true => F44 fu [D.int q, D.row q1, D.bool q2] node Nv (fun o_ => K (.int .i64 o_) []) | false => none)
 | _, _ => none
theorem e44 (R : Type) (K : UV -> O0 -> Option R) (fu : Nat) (q : Int) (q1 : List (List D)) (q2 : Bool) (node Nv : Int) :
  F44 fu [D.int q, D.row q1, D.bool q2] node Nv (fun o_ => K (.int .i64 o_) []) = I6 Try.prog ⟨(aW fu), pY fu⟩ 300 44 [.agg [.int .i64 q, .fz X1 q1 false, .bool q2], .int .i64 node, .int .i64 Nv] [] (W6 0 [.gc] K) := (eu fu _ _ _ _).trans (by kernel_rfl)
theorem s44 (fu : Nat) : N3 Try.prog 44 (t44 fu) := by
 refine y0 (T := ⟨(aW fu), pY fu⟩) (m := 0) (gout := [.gc]) (k := 300) (MY fu) (fun fn body hf hb => ?_) (fun R args s K r h => ?_) (fun R args s K r h => ?_)
 ·have hc : body = dR := by
   have h1 : Try.prog.funcs[44]? = some Try.f44 := rfl
   rw [h1] at hf; cases hf
   have h2 : Try.f44.body = some dR := rfl
   rw [h2] at hb; cases hb; rfl
  subst hc
  exact R0.none _ _ _
 ·unfold t44 at h; split at h
  ·rfl
  ·cases h
 ·unfold t44 at h; split at h
  case h_2 => cases h
  split at h
  case h_2 => cases h
  rename_i hq
  have hq := FT.J0 _ _ hq
  subst hq
  exact (e44 R K fu _ _ _ _ _).symm.trans h
def aH (fu : Nat) : FuncId -> Option (Bool × J1) := fun f => match Nat.beq f 44 with
 | true => some (false, CA [.V9 0 [1] X1] (t44 fu))
 | false => (aW fu) f
theorem MJ (fu : Nat) : C2 Try.prog (aH fu) := by
 intro f own told h
 unfold aH at h
 split at h
 ·rename_i hb
  cases h
  have := B6 hb
  subst this
  exact O1 (s44 fu)
 ·exact (MY fu) f own told h
end Go.Proofs.Ythlbahcggmbfaaa.V
end
noncomputable section
namespace Go.Proofs.Ythlbahcggmbfaaa.V
set_option maxRecDepth 100000
set_option maxHeartbeats 4000000
def de : Code := match Try.f25.body with | some c => c | none => .skip
def nv {R : Type} (fu : Nat) (c : List D) (node : Int) (k0 : Int -> Option R) : Option R :=
 F44 fu [D.int (cell 0 c).toInt, D.row (cell 1 c).C0, D.bool (cell 2 c).toBool] node (-1) fun u3 => (k0 u3)
def F25 {R : Type} := shut (@nv R)
theorem fL {R : Type} (fu : Nat) (c : List D) (node : Int) (k0 : Int -> Option R) : F25 fu c node k0 = nv fu c node k0 := by unfold F25; rw [O2]
def pq (fu : Nat) : Nat -> Option M1 := fun _ => none
def t25 (fu : Nat) : J1 := fun _ args s K => match args, s with
 | [.agg [.int .i64 q, .fz U4 q1 false, .bool q2], .int .i64 node], [] => (match FT.F0 U4 X1 with | true => F25 fu [D.int q, D.row q1, D.bool q2] node (fun o_ => K (.int .i64 o_) []) | false => none)
 | _, _ => none
theorem e25 (R : Type) (K : UV -> O0 -> Option R) (fu : Nat) (q : Int) (q1 : List (List D)) (q2 : Bool) (node : Int) :
  F25 fu [D.int q, D.row q1, D.bool q2] node (fun o_ => K (.int .i64 o_) []) = I6 Try.prog ⟨(aH fu), pq fu⟩ 300 25 [.agg [.int .i64 q, .fz X1 q1 false, .bool q2], .int .i64 node] [] (W6 0 [.gc] K) := (fL fu _ _ _).trans (by kernel_rfl)
theorem s25 (fu : Nat) : N3 Try.prog 25 (t25 fu) := by
 refine y0 (T := ⟨(aH fu), pq fu⟩) (m := 0) (gout := [.gc]) (k := 300) (MJ fu) (fun fn body hf hb => ?_) (fun R args s K r h => ?_) (fun R args s K r h => ?_)
 ·have hc : body = de := by
   have h1 : Try.prog.funcs[25]? = some Try.f25 := rfl
   rw [h1] at hf; cases hf
   have h2 : Try.f25.body = some de := rfl
   rw [h2] at hb; cases hb; rfl
  subst hc
  exact R0.none _ _ _
 ·unfold t25 at h; split at h
  ·rfl
  ·cases h
 ·unfold t25 at h; split at h
  case h_2 => cases h
  split at h
  case h_2 => cases h
  rename_i hq
  have hq := FT.J0 _ _ hq
  subst hq
  exact (e25 R K fu _ _ _ _).symm.trans h
def aT (fu : Nat) : FuncId -> Option (Bool × J1) := fun f => match Nat.beq f 25 with
 | true => some (false, CA [.V9 0 [1] X1] (t25 fu))
 | false => (aH fu) f
theorem MV (fu : Nat) : C2 Try.prog (aT fu) := by
 intro f own told h
 unfold aT at h
 split at h
 ·rename_i hb
  cases h
  have := B6 hb
  subst this
  exact O1 (s25 fu)
 ·exact (MJ fu) f own told h
end Go.Proofs.Ythlbahcggmbfaaa.V
end
noncomputable section
namespace Go.Proofs.Ythlbahcggmbfaaa.V
set_option maxRecDepth 100000
set_option maxHeartbeats 4000000
def dc : Code := match Try.f26.body with | some c => c | none => .skip
def nu {R : Type} (fu : Nat) (c : List D) (node : Int) (k0 : Int -> Option R) : Option R :=
 F44 fu [D.int (cell 0 c).toInt, D.row (cell 1 c).C0, D.bool (cell 2 c).toBool] node 1 fun u3 => (k0 u3)
def F26 {R : Type} := shut (@nu R)
theorem fK {R : Type} (fu : Nat) (c : List D) (node : Int) (k0 : Int -> Option R) : F26 fu c node k0 = nu fu c node k0 := by unfold F26; rw [O2]
def po (fu : Nat) : Nat -> Option M1 := fun _ => none
def t26 (fu : Nat) : J1 := fun _ args s K => match args, s with
 | [.agg [.int .i64 q, .fz U4 q1 false, .bool q2], .int .i64 node], [] => (match FT.F0 U4 X1 with | true => F26 fu [D.int q, D.row q1, D.bool q2] node (fun o_ => K (.int .i64 o_) []) | false => none)
 | _, _ => none
theorem e26 (R : Type) (K : UV -> O0 -> Option R) (fu : Nat) (q : Int) (q1 : List (List D)) (q2 : Bool) (node : Int) :
  F26 fu [D.int q, D.row q1, D.bool q2] node (fun o_ => K (.int .i64 o_) []) = I6 Try.prog ⟨(aT fu), po fu⟩ 300 26 [.agg [.int .i64 q, .fz X1 q1 false, .bool q2], .int .i64 node] [] (W6 0 [.gc] K) := (fK fu _ _ _).trans (by kernel_rfl)
theorem s26 (fu : Nat) : N3 Try.prog 26 (t26 fu) := by
 refine y0 (T := ⟨(aT fu), po fu⟩) (m := 0) (gout := [.gc]) (k := 300) (MV fu) (fun fn body hf hb => ?_) (fun R args s K r h => ?_) (fun R args s K r h => ?_)
 ·have hc : body = dc := by
   have h1 : Try.prog.funcs[26]? = some Try.f26 := rfl
   rw [h1] at hf; cases hf
   have h2 : Try.f26.body = some dc := rfl
   rw [h2] at hb; cases hb; rfl
  subst hc
  exact R0.none _ _ _
 ·unfold t26 at h; split at h
  ·rfl
  ·cases h
 ·unfold t26 at h; split at h
  case h_2 => cases h
  split at h
  case h_2 => cases h
  rename_i hq
  have hq := FT.J0 _ _ hq
  subst hq
  exact (e26 R K fu _ _ _ _).symm.trans h
def aS (fu : Nat) : FuncId -> Option (Bool × J1) := fun f => match Nat.beq f 26 with
 | true => some (false, CA [.V9 0 [1] X1] (t26 fu))
 | false => (aT fu) f
theorem MU (fu : Nat) : C2 Try.prog (aS fu) := by
 intro f own told h
 unfold aS at h
 split at h
 ·rename_i hb
  cases h
  have := B6 hb
  subst this
  exact O1 (s26 fu)
 ·exact (MV fu) f own told h
end Go.Proofs.Ythlbahcggmbfaaa.V
end
noncomputable section
namespace Go.Proofs.Ythlbahcggmbfaaa.V
set_option maxRecDepth 100000
set_option maxHeartbeats 4000000
def dJ : Code := match Try.f59.body with | some c => c | none => .skip
def nQ {R : Type} (fu : Nat) (n_ : Int) (k0 : Bool -> Option R) : Option R :=
 bif decide (0 <= n_) then (k0 (decide (n_ < 100))) else (k0 false)
def F59 {R : Type} := shut (@nQ R)
theorem eZ {R : Type} (fu : Nat) (n_ : Int) (k0 : Bool -> Option R) : F59 fu n_ k0 = nQ fu n_ k0 := by unfold F59; rw [O2]
def pQ (fu : Nat) : Nat -> Option M1 := fun _ => none
def t59 (fu : Nat) : J1 := fun _ args s K => match args, s with
 | [.int .i64 n_], [] => F59 fu n_ (fun o_ => K (.bool o_) [])
 | _, _ => none
theorem e59 (R : Type) (K : UV -> O0 -> Option R) (fu : Nat) (n_ : Int) :
  F59 fu n_ (fun o_ => K (.bool o_) []) = I6 Try.prog ⟨(aS fu), pQ fu⟩ 300 59 [.int .i64 n_] [] (W6 0 [.gc] K) := (eZ fu _ _).trans (by kernel_rfl)
theorem s59 (fu : Nat) : N3 Try.prog 59 (t59 fu) := by
 refine y0 (T := ⟨(aS fu), pQ fu⟩) (m := 0) (gout := [.gc]) (k := 300) (MU fu) (fun fn body hf hb => ?_) (fun R args s K r h => ?_) (fun R args s K r h => ?_)
 ·have hc : body = dJ := by
   have h1 : Try.prog.funcs[59]? = some Try.f59 := rfl
   rw [h1] at hf; cases hf
   have h2 : Try.f59.body = some dJ := rfl
   rw [h2] at hb; cases hb; rfl
  subst hc
  exact R0.none _ _ _
 ·unfold t59 at h; split at h
  ·rfl
  ·cases h
 ·unfold t59 at h; split at h
  case h_2 => cases h
  exact (e59 R K fu _).symm.trans h
def Xt (fu : Nat) : FuncId -> Option (Bool × J1) := fun f => match Nat.beq f 59 with
 | true => some (false, CA [] (t59 fu))
 | false => (aS fu) f
theorem HG (fu : Nat) : C2 Try.prog (Xt fu) := by
 intro f own told h
 unfold Xt at h
 split at h
 ·rename_i hb
  cases h
  have := B6 hb
  subst this
  exact O1 (s59 fu)
 ·exact (MU fu) f own told h
end Go.Proofs.Ythlbahcggmbfaaa.V
end
noncomputable section
namespace Go.Proofs.Ythlbahcggmbfaaa.V
set_option maxRecDepth 100000
set_option maxHeartbeats 4000000
def Ha : Code := match Try.f56.body with | some c => c | none => .skip
theorem eJ : N0 Ha 26 = some (.loop (V1 (N0 Ha 26))) := by kernel_rfl
def Jm {R : Type} (fu : Nat) (l x : List (List D)) (x1 : Int) : Nat -> Int -> (Option R) -> (Option R) -> Option R
 | 0, _, _, _ => none
 | n + 1, x2, k0, k1 => bif decide (x2 < x1) then bif within x2 x.length then F59 fu (cell 0 (elem x2.toNat x)).toInt fun u3 => bif !u3 then (k0) else bif decide ((0 : Int) <= 0 /\ 0 <= x2) && H9 x2 l.length then F60 fu (part l 0 x2.toNat) (cell 0 (elem x2.toNat x)).toInt fun N1 => bif N1 then (k0) else (Jm fu l x x1 n (IntKind.i64.wrap (x2 + 1)) k0 k1) else none else none else (k1)
def Mh (fu n : Nat) : M1 := fun _ e s K => match e, s with
 | [.fz U4 l false, .fz C6 x false, .int .i64 x1, .int .i64 x2], [] => (match FT.F0 U4 X1 with | true => (match FT.F0 C6 X1 with | true => Jm fu l x x1 n x2 (K .ret (I0 (D0 3 0x5) [.fz X1 (l) false, .bool (false)]) []) (K (.exit 0) (I0 (D0 3 0x1) [.fz X1 (l) false]) []) | false => none) | false => none)
 | _, _ => none
def WX (fu : Nat) : Nat -> Option M1 := fun _ => none
theorem mq (fu n : Nat) (R : Type) (K : Y2 -> R1 -> O0 -> Option R) (l x : List (List D)) (x1 x2 : Int) :
  Jm fu l x x1 (n + 1) x2 (K .ret (I0 (D0 3 0x5) [.fz X1 (l) false, .bool (false)]) []) (K (.exit 0) (I0 (D0 3 0x1) [.fz X1 (l) false]) []) = n4 Try.prog (Xt fu) 300 (WX fu) 52 (V1 (N0 Ha 26)) (I0 (D0 8 0xe1) [.fz X1 l false, .fz X1 x false, .int .i64 x1, .int .i64 x2]) [] (BU 0 [.live (D0 8 0xe1), .V9 0 [] X1, .V9 5 [] X1, .gc] [.live (D0 3 0x5), .gc] (E8 (D0 8 0xe1) (Mh fu n)) K) := by kernel_rfl
theorem ku (fu : Nat) : R0 Try.prog 0 Ha (WX fu) := R0.none _ _ _
theorem kY (fu : Nat) : ∀ n, l4 Try.prog 0 (.loop (V1 (N0 Ha 26))) (E8 (D0 8 0xe1) (Mh fu n)) := by
 refine H4 (gin := [.live (D0 8 0xe1), .V9 0 [] X1, .V9 5 [] X1, .gc]) (gout := [.live (D0 3 0x5), .gc]) (k := 300) (HG fu) (ku fu) (by decide) eJ (fun R e s K => ?_) (fun n R e s K r h => ?_)
 ·unfold Mh; repeat' split
  all_goals rfl
 ·unfold Mh at h; split at h
  case h_2 => cases h
  iterate 2 (split at h; (case h_2 => cases h); rename_i hq; have hq := FT.J0 _ _ hq; subst hq)
  exact (mq fu n R K _ _ _ _).symm.trans h
def nS {R : Type} (fu : Nat) (l : List (List D)) (k0 : Bool -> Option R) : Option R :=
 Jm fu l l (S1 l.length) fu 0 ((k0 false)) (bif decide (1 <= S1 l.length) then (k0 (decide (S1 l.length <= 7))) else (k0 false))
def F56 {R : Type} := shut (@nS R)
theorem ee {R : Type} (fu : Nat) (l : List (List D)) (k0 : Bool -> Option R) : F56 fu l k0 = nS fu l k0 := by unfold F56; rw [O2]
def gX (fu : Nat) : Nat -> Option M1 := fun p => match Nat.beq p 26 with | true => some (Ie 0 [.live (D0 8 0xe1), .V9 0 [] X1, .V9 5 [] X1, .gc] (E8 (D0 8 0xe1) (Mh fu fu))) | false => none
def t56 (fu : Nat) : J1 := fun _ args s K => match args, s with
 | [.fz U4 l false], [] => (match FT.F0 U4 X1 with | true => F56 fu l (fun o_ => K (.bool o_) []) | false => none)
 | _, _ => none
theorem e56 (R : Type) (K : UV -> O0 -> Option R) (fu : Nat) (l : List (List D)) :
  F56 fu l (fun o_ => K (.bool o_) []) = I6 Try.prog ⟨(Xt fu), gX fu⟩ 300 56 [.fz X1 l false] [] (W6 0 [.gc] K) := (ee fu _ _).trans (by kernel_rfl)
theorem s56 (fu : Nat) : N3 Try.prog 56 (t56 fu) := by
 refine y0 (T := ⟨(Xt fu), gX fu⟩) (m := 0) (gout := [.gc]) (k := 300) (HG fu) (fun fn body hf hb => ?_) (fun R args s K r h => ?_) (fun R args s K r h => ?_)
 ·have hc : body = Ha := by
   have h1 : Try.prog.funcs[56]? = some Try.f56 := rfl
   rw [h1] at hf; cases hf
   have h2 : Try.f56.body = some Ha := rfl
   rw [h2] at hb; cases hb; rfl
  subst hc
  exact fun p told h b hb => by
   replace h : gX fu p = some told := h
   unfold gX at h
   split at h
   ·rename_i hp
    cases h
    have := B6 hp
    subst this
    rw [eJ] at hb
    cases hb
    exact C3 (kY fu _)
   ·
    cases h

 ·unfold t56 at h; split at h
  ·rfl
  ·cases h
 ·unfold t56 at h; split at h
  case h_2 => cases h
  split at h
  case h_2 => cases h
  rename_i hq
  have hq := FT.J0 _ _ hq
  subst hq
  exact (e56 R K fu _).symm.trans h
def aB (fu : Nat) : FuncId -> Option (Bool × J1) := fun f => match Nat.beq f 56 with
 | true => some (false, CA [.V9 0 [] X1] (t56 fu))
 | false => (Xt fu) f
theorem MC (fu : Nat) : C2 Try.prog (aB fu) := by
 intro f own told h
 unfold aB at h
 split at h
 ·rename_i hb
  cases h
  have := B6 hb
  subst this
  exact O1 (s56 fu)
 ·exact (HG fu) f own told h
end Go.Proofs.Ythlbahcggmbfaaa.V
end
noncomputable section
namespace Go.Proofs.Ythlbahcggmbfaaa.V
set_option maxRecDepth 100000
set_option maxHeartbeats 4000000
def dT : Code := match Try.f41.body with | some c => c | none => .skip
def eW {R : Type} (fu : Nat) (c : List D) (k0 : (List D) -> Option R) : Option R :=
 bif fits (cell 1 c).C0.length 8 then (k0 c) else none
def F41 {R : Type} := shut (@eW R)
theorem RX {R : Type} (fu : Nat) (c : List D) (k0 : (List D) -> Option R) : F41 fu c k0 = eW fu c k0 := by unfold F41; rw [O2]
def pa (fu : Nat) : Nat -> Option M1 := fun _ => none
def t41 (fu : Nat) : J1 := fun _ args s K => match args, s with
 | [.agg [.int .i64 q, .fz U4 q1 false, .bool q2]], [] => (match FT.F0 U4 X1 with | true => F41 fu [D.int q, D.row q1, D.bool q2] (fun o_ => K (.agg (L9 0 P1 o_)) []) | false => none)
 | _, _ => none
theorem e41 (R : Type) (K : UV -> O0 -> Option R) (fu : Nat) (q : Int) (q1 : List (List D)) (q2 : Bool) :
  F41 fu [D.int q, D.row q1, D.bool q2] (fun o_ => K (.agg (L9 0 P1 o_)) []) = I6 Try.prog ⟨(aB fu), pa fu⟩ 300 41 [.agg [.int .i64 q, .fz X1 q1 false, .bool q2]] [] (W6 0 [.V9 0 [1] X1, .gc] K) := (RX fu _ _).trans (by kernel_rfl)
theorem s41 (fu : Nat) : N3 Try.prog 41 (t41 fu) := by
 refine y0 (T := ⟨(aB fu), pa fu⟩) (m := 0) (gout := [.V9 0 [1] X1, .gc]) (k := 300) (MC fu) (fun fn body hf hb => ?_) (fun R args s K r h => ?_) (fun R args s K r h => ?_)
 ·have hc : body = dT := by
   have h1 : Try.prog.funcs[41]? = some Try.f41 := rfl
   rw [h1] at hf; cases hf
   have h2 : Try.f41.body = some dT := rfl
   rw [h2] at hb; cases hb; rfl
  subst hc
  exact R0.none _ _ _
 ·unfold t41 at h; split at h
  ·rfl
  ·cases h
 ·unfold t41 at h; split at h
  case h_2 => cases h
  split at h
  case h_2 => cases h
  rename_i hq
  have hq := FT.J0 _ _ hq
  subst hq
  exact (e41 R K fu _ _ _).symm.trans h
def Ui (fu : Nat) : FuncId -> Option (Bool × J1) := fun f => match Nat.beq f 41 with
 | true => some (false, CA [.V9 0 [1] X1] (t41 fu))
 | false => (aB fu) f
theorem HI (fu : Nat) : C2 Try.prog (Ui fu) := by
 intro f own told h
 unfold Ui at h
 split at h
 ·rename_i hb
  cases h
  have := B6 hb
  subst this
  exact O1 (s41 fu)
 ·exact (MC fu) f own told h
end Go.Proofs.Ythlbahcggmbfaaa.V
end
noncomputable section
namespace Go.Proofs.Ythlbahcggmbfaaa.V
set_option maxRecDepth 100000
set_option maxHeartbeats 4000000
def dK : Code := match Try.f57.body with | some c => c | none => .skip
def nR {R : Type} (fu : Nat) (c : List D) (k0 : (List D) -> Option R) : Option R :=
 bif fits (cell 1 c).C0.length 8 then (k0 c) else none
def F57 {R : Type} := shut (@nR R)
theorem eb {R : Type} (fu : Nat) (c : List D) (k0 : (List D) -> Option R) : F57 fu c k0 = nR fu c k0 := by unfold F57; rw [O2]
def pR (fu : Nat) : Nat -> Option M1 := fun _ => none
def t57 (fu : Nat) : J1 := fun _ args s K => match args, s with
 | [.agg [.int .i64 q, .fz U4 q1 false, .bool q2]], [] => (match FT.F0 U4 X1 with | true => F57 fu [D.int q, D.row q1, D.bool q2] (fun o_ => K (.agg (L9 0 P1 o_)) []) | false => none)
 | _, _ => none
theorem e57 (R : Type) (K : UV -> O0 -> Option R) (fu : Nat) (q : Int) (q1 : List (List D)) (q2 : Bool) :
  F57 fu [D.int q, D.row q1, D.bool q2] (fun o_ => K (.agg (L9 0 P1 o_)) []) = I6 Try.prog ⟨(Ui fu), pR fu⟩ 300 57 [.agg [.int .i64 q, .fz X1 q1 false, .bool q2]] [] (W6 0 [.V9 0 [1] X1, .gc] K) := (eb fu _ _).trans (by kernel_rfl)
theorem s57 (fu : Nat) : N3 Try.prog 57 (t57 fu) := by
 refine y0 (T := ⟨(Ui fu), pR fu⟩) (m := 0) (gout := [.V9 0 [1] X1, .gc]) (k := 300) (HI fu) (fun fn body hf hb => ?_) (fun R args s K r h => ?_) (fun R args s K r h => ?_)
 ·have hc : body = dK := by
   have h1 : Try.prog.funcs[57]? = some Try.f57 := rfl
   rw [h1] at hf; cases hf
   have h2 : Try.f57.body = some dK := rfl
   rw [h2] at hb; cases hb; rfl
  subst hc
  exact R0.none _ _ _
 ·unfold t57 at h; split at h
  ·rfl
  ·cases h
 ·unfold t57 at h; split at h
  case h_2 => cases h
  split at h
  case h_2 => cases h
  rename_i hq
  have hq := FT.J0 _ _ hq
  subst hq
  exact (e57 R K fu _ _ _).symm.trans h
def aA (fu : Nat) : FuncId -> Option (Bool × J1) := fun f => match Nat.beq f 57 with
 | true => some (false, CA [.V9 0 [1] X1] (t57 fu))
 | false => (Ui fu) f
theorem MB (fu : Nat) : C2 Try.prog (aA fu) := by
 intro f own told h
 unfold aA at h
 split at h
 ·rename_i hb
  cases h
  have := B6 hb
  subst this
  exact O1 (s57 fu)
 ·exact (HI fu) f own told h
end Go.Proofs.Ythlbahcggmbfaaa.V
end
noncomputable section
namespace Go.Proofs.Ythlbahcggmbfaaa.V
set_option maxRecDepth 100000
set_option maxHeartbeats 4000000
def dW : Code := match Try.f34.body with | some c => c | none => .skip
def ni {R : Type} (fu : Nat) (k0 : Option R) : Option R :=
 (k0)
def F34 {R : Type} := shut (@ni R)
theorem fD {R : Type} (fu : Nat) (k0 : Option R) : F34 fu k0 = ni fu k0 := by unfold F34; rw [O2]
def pd (fu : Nat) : Nat -> Option M1 := fun _ => none
def t34 (fu : Nat) : J1 := fun _ args s K => match args, s with
 | [], [] => F34 fu  (K (.ptr 0 0) [.obj [.map 1], .map (.int .i64) true P1 ([])])
 | _, _ => none
theorem e34 (R : Type) (K : UV -> O0 -> Option R) (fu : Nat) :
  F34 fu  (K (.ptr 0 0) [.obj [.map 1], .map (.int .i64) true P1 ([])]) = I6 Try.prog ⟨(aA fu), pd fu⟩ 300 34 [] [] (W6 0 [.gc] K) := (fD fu _).trans (by kernel_rfl)
theorem s34 (fu : Nat) : N3 Try.prog 34 (t34 fu) := by
 refine y0 (T := ⟨(aA fu), pd fu⟩) (m := 0) (gout := [.gc]) (k := 300) (MB fu) (fun fn body hf hb => ?_) (fun R args s K r h => ?_) (fun R args s K r h => ?_)
 ·have hc : body = dW := by
   have h1 : Try.prog.funcs[34]? = some Try.f34 := rfl
   rw [h1] at hf; cases hf
   have h2 : Try.f34.body = some dW := rfl
   rw [h2] at hb; cases hb; rfl
  subst hc
  exact R0.none _ _ _
 ·unfold t34 at h; split at h
  ·rfl
  ·cases h
 ·unfold t34 at h; split at h
  case h_2 => cases h
  exact (e34 R K fu).symm.trans h
def aL (fu : Nat) : FuncId -> Option (Bool × J1) := fun f => match Nat.beq f 34 with
 | true => some (false, CA [] (t34 fu))
 | false => (aA fu) f
theorem MN (fu : Nat) : C2 Try.prog (aL fu) := by
 intro f own told h
 unfold aL at h
 split at h
 ·rename_i hb
  cases h
  have := B6 hb
  subst this
  exact O1 (s34 fu)
 ·exact (MB fu) f own told h
end Go.Proofs.Ythlbahcggmbfaaa.V
end
noncomputable section
namespace Go.Proofs.Ythlbahcggmbfaaa.V
set_option maxRecDepth 100000
set_option maxHeartbeats 4000000
def dM : Code := match Try.f50.body with | some c => c | none => .skip
def nU {R : Type} (fu : Nat) (Ef : Int) (X4 : List (D × List D)) (k0 : (List D) -> Bool -> Option R) : Option R :=
 F57 fu [D.int (cell 0 (W3 X4 (D.int Ef) [D.int 0, D.nil, D.bool false])).toInt, D.row (cell 1 (W3 X4 (D.int Ef) [D.int 0, D.nil, D.bool false])).C0, D.bool (cell 2 (W3 X4 (D.int Ef) [D.int 0, D.nil, D.bool false])).toBool] fun u3 => (k0 u3 (JN X4 (D.int Ef)))
def F50 {R : Type} := shut (@nU R)
theorem eg {R : Type} (fu : Nat) (Ef : Int) (X4 : List (D × List D)) (k0 : (List D) -> Bool -> Option R) : F50 fu Ef X4 k0 = nU fu Ef X4 k0 := by unfold F50; rw [O2]
def pT (fu : Nat) : Nat -> Option M1 := fun _ => none
def t50 (fu : Nat) : J1 := fun _ args s K => match args, s with
 | [.ptr 0 0, .int .i64 Ef], [.obj [.map 1], .map (.int .i64) true U4 X4] => (match FT.F0 U4 P1 with | true => F50 fu Ef X4 (fun o_ N1 => K (.tuple [.agg (L9 0 P1 o_), .bool N1]) [.obj [.map 1], .map (.int .i64) true P1 (X4)]) | false => none)
 | _, _ => none
theorem e50 (R : Type) (K : UV -> O0 -> Option R) (fu : Nat) (Ef : Int) (X4 : List (D × List D)) :
  F50 fu Ef X4 (fun o_ N1 => K (.tuple [.agg (L9 0 P1 o_), .bool N1]) [.obj [.map 1], .map (.int .i64) true P1 (X4)]) = I6 Try.prog ⟨(aL fu), pT fu⟩ 300 50 [.ptr 0 0, .int .i64 Ef] [.obj [.map 1], .map (.int .i64) true P1 X4] (W6 2 [.V9 0 [0, 1] X1, .gc] K) := (eg fu _ _ _).trans (by kernel_rfl)
theorem s50 (fu : Nat) : N3 Try.prog 50 (t50 fu) := by
 refine y0 (T := ⟨(aL fu), pT fu⟩) (m := 2) (gout := [.V9 0 [0, 1] X1, .gc]) (k := 300) (MN fu) (fun fn body hf hb => ?_) (fun R args s K r h => ?_) (fun R args s K r h => ?_)
 ·have hc : body = dM := by
   have h1 : Try.prog.funcs[50]? = some Try.f50 := rfl
   rw [h1] at hf; cases hf
   have h2 : Try.f50.body = some dM := rfl
   rw [h2] at hb; cases hb; rfl
  subst hc
  exact R0.none _ _ _
 ·unfold t50 at h; split at h
  ·rfl
  ·cases h
 ·unfold t50 at h; split at h
  case h_2 => cases h
  split at h
  case h_2 => cases h
  rename_i hq
  have hq := FT.J0 _ _ hq
  subst hq
  exact (e50 R K fu _ _).symm.trans h
def aD (fu : Nat) : FuncId -> Option (Bool × J1) := fun f => match Nat.beq f 50 with
 | true => some (false, CA [.gc, .gc] (t50 fu))
 | false => (aL fu) f
theorem MF (fu : Nat) : C2 Try.prog (aD fu) := by
 intro f own told h
 unfold aD at h
 split at h
 ·rename_i hb
  cases h
  have := B6 hb
  subst this
  exact O1 (s50 fu)
 ·exact (MN fu) f own told h
end Go.Proofs.Ythlbahcggmbfaaa.V
end
noncomputable section
namespace Go.Proofs.Ythlbahcggmbfaaa.V
set_option maxRecDepth 100000
set_option maxHeartbeats 4000000
def dS : Code := match Try.f43.body with | some c => c | none => .skip
def na {R : Type} (fu : Nat) (AL AC : Int) (AA : List (List D)) (AB : Bool) (AK : List (List D)) (AI : Bool) (AD AJ AE AG : Int) (AF : Bool) (AH : Int) (k0 : Bool -> Option R) : Option R :=
 bif decide (0 < S1 AA.length) then F22 fu [D.int AC, D.row AA, D.bool AB] AL fun u3 => (k0 (decide (u3 = IntKind.i64.wrap (S1 AA.length - 1)))) else (k0 false)
def F43 {R : Type} := shut (@na R)
theorem ey {R : Type} (fu : Nat) (AL AC : Int) (AA : List (List D)) (AB : Bool) (AK : List (List D)) (AI : Bool) (AD AJ AE AG : Int) (AF : Bool) (AH : Int) (k0 : Bool -> Option R) : F43 fu AL AC AA AB AK AI AD AJ AE AG AF AH k0 = na fu AL AC AA AB AK AI AD AJ AE AG AF AH k0 := by unfold F43; rw [O2]
def pZ (fu : Nat) : Nat -> Option M1 := fun _ => none
def t43 (fu : Nat) : J1 := fun _ args s K => match args, s with
 | [.ptr 0 0], [.obj [.int .i64 AL, .int .i64 AC, .fz U4 AA false, .bool AB, .fz C6 AK false, .bool AI, .int .i64 AD, .int .i64 AJ, .int .i64 AE, .int .i64 AG, .bool AF, .int .i64 AH]] => (match FT.F0 U4 X1 with | true => (match FT.F0 C6 D1 with | true => F43 fu AL AC AA AB AK AI AD AJ AE AG AF AH (fun o_ => K (.bool o_) [.obj [.int .i64 (AL), .int .i64 (AC), .fz X1 (AA) false, .bool (AB), .fz D1 (AK) false, .bool (AI), .int .i64 (AD), .int .i64 (AJ), .int .i64 (AE), .int .i64 (AG), .bool (AF), .int .i64 (AH)]]) | false => none) | false => none)
 | _, _ => none
theorem e43 (R : Type) (K : UV -> O0 -> Option R) (fu : Nat) (AL AC : Int) (AA : List (List D)) (AB : Bool) (AK : List (List D)) (AI : Bool) (AD AJ AE AG : Int) (AF : Bool) (AH : Int) :
  F43 fu AL AC AA AB AK AI AD AJ AE AG AF AH (fun o_ => K (.bool o_) [.obj [.int .i64 (AL), .int .i64 (AC), .fz X1 (AA) false, .bool (AB), .fz D1 (AK) false, .bool (AI), .int .i64 (AD), .int .i64 (AJ), .int .i64 (AE), .int .i64 (AG), .bool (AF), .int .i64 (AH)]]) = I6 Try.prog ⟨(aD fu), pZ fu⟩ 300 43 [.ptr 0 0] [.obj [.int .i64 AL, .int .i64 AC, .fz X1 AA false, .bool AB, .fz D1 AK false, .bool AI, .int .i64 AD, .int .i64 AJ, .int .i64 AE, .int .i64 AG, .bool AF, .int .i64 AH]] (W6 1 [.gc, .S3 0 2 X1, .S3 0 4 D1, .gc] K) := (ey fu _ _ _ _ _ _ _ _ _ _ _ _ _).trans (by kernel_rfl)
theorem s43 (fu : Nat) : N3 Try.prog 43 (t43 fu) := by
 refine y0 (T := ⟨(aD fu), pZ fu⟩) (m := 1) (gout := [.gc, .S3 0 2 X1, .S3 0 4 D1, .gc]) (k := 300) (MF fu) (fun fn body hf hb => ?_) (fun R args s K r h => ?_) (fun R args s K r h => ?_)
 ·have hc : body = dS := by
   have h1 : Try.prog.funcs[43]? = some Try.f43 := rfl
   rw [h1] at hf; cases hf
   have h2 : Try.f43.body = some dS := rfl
   rw [h2] at hb; cases hb; rfl
  subst hc
  exact R0.none _ _ _
 ·unfold t43 at h; split at h
  ·rfl
  ·cases h
 ·unfold t43 at h; split at h
  case h_2 => cases h
  iterate 2 (split at h; (case h_2 => cases h); rename_i hq; have hq := FT.J0 _ _ hq; subst hq)
  exact (e43 R K fu _ _ _ _ _ _ _ _ _ _ _ _).symm.trans h
def aI (fu : Nat) : FuncId -> Option (Bool × J1) := fun f => match Nat.beq f 43 with
 | true => some (false, OS (CA [.gc, .S3 0 2 X1, .S3 0 4 D1, .gc] (t43 fu)))
 | false => (aD fu) f
theorem MK (fu : Nat) : C2 Try.prog (aI fu) := by
 intro f own told h
 unfold aI at h
 split at h
 ·rename_i hb
  cases h
  have := B6 hb
  subst this
  exact M4 (O1 (s43 fu))
 ·exact (MF fu) f own told h
end Go.Proofs.Ythlbahcggmbfaaa.V
end
noncomputable section
namespace Go.Proofs.Ythlbahcggmbfaaa.V
set_option maxRecDepth 100000
set_option maxHeartbeats 4000000
def df : Code := match Try.f24.body with | some c => c | none => .skip
def ny {R : Type} (fu : Nat) (AL AC : Int) (AA : List (List D)) (AB : Bool) (AK : List (List D)) (AI : Bool) (AD AJ AE AG : Int) (AF : Bool) (AH : Int) (k0 : Bool -> Option R) : Option R :=
 bif AI then F43 fu AL AC AA AB AK AI AD AJ AE AG AF AH fun u3 => (k0 u3) else (k0 false)
def F24 {R : Type} := shut (@ny R)
theorem fM {R : Type} (fu : Nat) (AL AC : Int) (AA : List (List D)) (AB : Bool) (AK : List (List D)) (AI : Bool) (AD AJ AE AG : Int) (AF : Bool) (AH : Int) (k0 : Bool -> Option R) : F24 fu AL AC AA AB AK AI AD AJ AE AG AF AH k0 = ny fu AL AC AA AB AK AI AD AJ AE AG AF AH k0 := by unfold F24; rw [O2]
def pr (fu : Nat) : Nat -> Option M1 := fun _ => none
def t24 (fu : Nat) : J1 := fun _ args s K => match args, s with
 | [.ptr 0 0], [.obj [.int .i64 AL, .int .i64 AC, .fz U4 AA false, .bool AB, .fz C6 AK false, .bool AI, .int .i64 AD, .int .i64 AJ, .int .i64 AE, .int .i64 AG, .bool AF, .int .i64 AH]] => (match FT.F0 U4 X1 with | true => (match FT.F0 C6 D1 with | true => F24 fu AL AC AA AB AK AI AD AJ AE AG AF AH (fun o_ => K (.bool o_) [.obj [.int .i64 (AL), .int .i64 (AC), .fz X1 (AA) false, .bool (AB), .fz D1 (AK) false, .bool (AI), .int .i64 (AD), .int .i64 (AJ), .int .i64 (AE), .int .i64 (AG), .bool (AF), .int .i64 (AH)]]) | false => none) | false => none)
 | _, _ => none
theorem e24 (R : Type) (K : UV -> O0 -> Option R) (fu : Nat) (AL AC : Int) (AA : List (List D)) (AB : Bool) (AK : List (List D)) (AI : Bool) (AD AJ AE AG : Int) (AF : Bool) (AH : Int) :
  F24 fu AL AC AA AB AK AI AD AJ AE AG AF AH (fun o_ => K (.bool o_) [.obj [.int .i64 (AL), .int .i64 (AC), .fz X1 (AA) false, .bool (AB), .fz D1 (AK) false, .bool (AI), .int .i64 (AD), .int .i64 (AJ), .int .i64 (AE), .int .i64 (AG), .bool (AF), .int .i64 (AH)]]) = I6 Try.prog ⟨(aI fu), pr fu⟩ 300 24 [.ptr 0 0] [.obj [.int .i64 AL, .int .i64 AC, .fz X1 AA false, .bool AB, .fz D1 AK false, .bool AI, .int .i64 AD, .int .i64 AJ, .int .i64 AE, .int .i64 AG, .bool AF, .int .i64 AH]] (W6 1 [.gc, .S3 0 2 X1, .S3 0 4 D1, .gc] K) := (fM fu _ _ _ _ _ _ _ _ _ _ _ _ _).trans (by kernel_rfl)
theorem s24 (fu : Nat) : N3 Try.prog 24 (t24 fu) := by
 refine y0 (T := ⟨(aI fu), pr fu⟩) (m := 1) (gout := [.gc, .S3 0 2 X1, .S3 0 4 D1, .gc]) (k := 300) (MK fu) (fun fn body hf hb => ?_) (fun R args s K r h => ?_) (fun R args s K r h => ?_)
 ·have hc : body = df := by
   have h1 : Try.prog.funcs[24]? = some Try.f24 := rfl
   rw [h1] at hf; cases hf
   have h2 : Try.f24.body = some df := rfl
   rw [h2] at hb; cases hb; rfl
  subst hc
  exact R0.none _ _ _
 ·unfold t24 at h; split at h
  ·rfl
  ·cases h
 ·unfold t24 at h; split at h
  case h_2 => cases h
  iterate 2 (split at h; (case h_2 => cases h); rename_i hq; have hq := FT.J0 _ _ hq; subst hq)
  exact (e24 R K fu _ _ _ _ _ _ _ _ _ _ _ _).symm.trans h
def aU (fu : Nat) : FuncId -> Option (Bool × J1) := fun f => match Nat.beq f 24 with
 | true => some (false, OS (CA [.gc, .S3 0 2 X1, .S3 0 4 D1, .gc] (t24 fu)))
 | false => (aI fu) f
theorem MW (fu : Nat) : C2 Try.prog (aU fu) := by
 intro f own told h
 unfold aU at h
 split at h
 ·rename_i hb
  cases h
  have := B6 hb
  subst this
  exact M4 (O1 (s24 fu))
 ·exact (MK fu) f own told h
end Go.Proofs.Ythlbahcggmbfaaa.V
end
noncomputable section
namespace Go.Proofs.Ythlbahcggmbfaaa.V
set_option maxRecDepth 100000
set_option maxHeartbeats 4000000
def dg : Code := match Try.f23.body with | some c => c | none => .skip
def nz {R : Type} (fu : Nat) (AL AC : Int) (AA : List (List D)) (AB : Bool) (AK : List (List D)) (AI : Bool) (AD AJ AE AG : Int) (AF : Bool) (AH : Int) (k0 : Bool -> Option R) : Option R :=
 bif AI then F22 fu [D.int AC, D.row AA, D.bool AB] AL fun u3 => (k0 (decide (u3 = 0))) else (k0 false)
def F23 {R : Type} := shut (@nz R)
theorem fN {R : Type} (fu : Nat) (AL AC : Int) (AA : List (List D)) (AB : Bool) (AK : List (List D)) (AI : Bool) (AD AJ AE AG : Int) (AF : Bool) (AH : Int) (k0 : Bool -> Option R) : F23 fu AL AC AA AB AK AI AD AJ AE AG AF AH k0 = nz fu AL AC AA AB AK AI AD AJ AE AG AF AH k0 := by unfold F23; rw [O2]
def pt (fu : Nat) : Nat -> Option M1 := fun _ => none
def t23 (fu : Nat) : J1 := fun _ args s K => match args, s with
 | [.ptr 0 0], [.obj [.int .i64 AL, .int .i64 AC, .fz U4 AA false, .bool AB, .fz C6 AK false, .bool AI, .int .i64 AD, .int .i64 AJ, .int .i64 AE, .int .i64 AG, .bool AF, .int .i64 AH]] => (match FT.F0 U4 X1 with | true => (match FT.F0 C6 D1 with | true => F23 fu AL AC AA AB AK AI AD AJ AE AG AF AH (fun o_ => K (.bool o_) [.obj [.int .i64 (AL), .int .i64 (AC), .fz X1 (AA) false, .bool (AB), .fz D1 (AK) false, .bool (AI), .int .i64 (AD), .int .i64 (AJ), .int .i64 (AE), .int .i64 (AG), .bool (AF), .int .i64 (AH)]]) | false => none) | false => none)
 | _, _ => none
theorem e23 (R : Type) (K : UV -> O0 -> Option R) (fu : Nat) (AL AC : Int) (AA : List (List D)) (AB : Bool) (AK : List (List D)) (AI : Bool) (AD AJ AE AG : Int) (AF : Bool) (AH : Int) :
  F23 fu AL AC AA AB AK AI AD AJ AE AG AF AH (fun o_ => K (.bool o_) [.obj [.int .i64 (AL), .int .i64 (AC), .fz X1 (AA) false, .bool (AB), .fz D1 (AK) false, .bool (AI), .int .i64 (AD), .int .i64 (AJ), .int .i64 (AE), .int .i64 (AG), .bool (AF), .int .i64 (AH)]]) = I6 Try.prog ⟨(aU fu), pt fu⟩ 300 23 [.ptr 0 0] [.obj [.int .i64 AL, .int .i64 AC, .fz X1 AA false, .bool AB, .fz D1 AK false, .bool AI, .int .i64 AD, .int .i64 AJ, .int .i64 AE, .int .i64 AG, .bool AF, .int .i64 AH]] (W6 1 [.gc, .S3 0 2 X1, .S3 0 4 D1, .gc] K) := (fN fu _ _ _ _ _ _ _ _ _ _ _ _ _).trans (by kernel_rfl)
theorem s23 (fu : Nat) : N3 Try.prog 23 (t23 fu) := by
 refine y0 (T := ⟨(aU fu), pt fu⟩) (m := 1) (gout := [.gc, .S3 0 2 X1, .S3 0 4 D1, .gc]) (k := 300) (MW fu) (fun fn body hf hb => ?_) (fun R args s K r h => ?_) (fun R args s K r h => ?_)
 ·have hc : body = dg := by
   have h1 : Try.prog.funcs[23]? = some Try.f23 := rfl
   rw [h1] at hf; cases hf
   have h2 : Try.f23.body = some dg := rfl
   rw [h2] at hb; cases hb; rfl
  subst hc
  exact R0.none _ _ _
 ·unfold t23 at h; split at h
  ·rfl
  ·cases h
 ·unfold t23 at h; split at h
  case h_2 => cases h
  iterate 2 (split at h; (case h_2 => cases h); rename_i hq; have hq := FT.J0 _ _ hq; subst hq)
  exact (e23 R K fu _ _ _ _ _ _ _ _ _ _ _ _).symm.trans h
def aV (fu : Nat) : FuncId -> Option (Bool × J1) := fun f => match Nat.beq f 23 with
 | true => some (false, OS (CA [.gc, .S3 0 2 X1, .S3 0 4 D1, .gc] (t23 fu)))
 | false => (aU fu) f
theorem MX (fu : Nat) : C2 Try.prog (aV fu) := by
 intro f own told h
 unfold aV at h
 split at h
 ·rename_i hb
  cases h
  have := B6 hb
  subst this
  exact M4 (O1 (s23 fu))
 ·exact (MW fu) f own told h
end Go.Proofs.Ythlbahcggmbfaaa.V
end
noncomputable section
namespace Go.Proofs.Ythlbahcggmbfaaa.V
set_option maxRecDepth 100000
set_option maxHeartbeats 4000000
def dj : Code := match Try.f21.body with | some c => c | none => .skip
def rz {R : Type} (fu : Nat) (AL AC : Int) (AA : List (List D)) (AB : Bool) (AK : List (List D)) (AI : Bool) (AD AJ AE AG : Int) (AF : Bool) (AH : Int) (k0 : Option R) : Option R :=
 (k0)
def F21 {R : Type} := shut (@rz R)
theorem fP {R : Type} (fu : Nat) (AL AC : Int) (AA : List (List D)) (AB : Bool) (AK : List (List D)) (AI : Bool) (AD AJ AE AG : Int) (AF : Bool) (AH : Int) (k0 : Option R) : F21 fu AL AC AA AB AK AI AD AJ AE AG AF AH k0 = rz fu AL AC AA AB AK AI AD AJ AE AG AF AH k0 := by unfold F21; rw [O2]
def pw (fu : Nat) : Nat -> Option M1 := fun _ => none
def t21 (fu : Nat) : J1 := fun _ args s K => match args, s with
 | [.ptr 0 0], [.obj [.int .i64 AL, .int .i64 AC, .fz U4 AA false, .bool AB, .fz C6 AK false, .bool AI, .int .i64 AD, .int .i64 AJ, .int .i64 AE, .int .i64 AG, .bool AF, .int .i64 AH]] => (match FT.F0 U4 X1 with | true => (match FT.F0 C6 D1 with | true => F21 fu AL AC AA AB AK AI AD AJ AE AG AF AH (K (.bool (AI)) [.obj [.int .i64 (AL), .int .i64 (AC), .fz X1 (AA) false, .bool (AB), .fz D1 (AK) false, .bool (AI), .int .i64 (AD), .int .i64 (AJ), .int .i64 (AE), .int .i64 (AG), .bool (AF), .int .i64 (AH)]]) | false => none) | false => none)
 | _, _ => none
theorem e21 (R : Type) (K : UV -> O0 -> Option R) (fu : Nat) (AL AC : Int) (AA : List (List D)) (AB : Bool) (AK : List (List D)) (AI : Bool) (AD AJ AE AG : Int) (AF : Bool) (AH : Int) :
  F21 fu AL AC AA AB AK AI AD AJ AE AG AF AH (K (.bool (AI)) [.obj [.int .i64 (AL), .int .i64 (AC), .fz X1 (AA) false, .bool (AB), .fz D1 (AK) false, .bool (AI), .int .i64 (AD), .int .i64 (AJ), .int .i64 (AE), .int .i64 (AG), .bool (AF), .int .i64 (AH)]]) = I6 Try.prog ⟨(aV fu), pw fu⟩ 300 21 [.ptr 0 0] [.obj [.int .i64 AL, .int .i64 AC, .fz X1 AA false, .bool AB, .fz D1 AK false, .bool AI, .int .i64 AD, .int .i64 AJ, .int .i64 AE, .int .i64 AG, .bool AF, .int .i64 AH]] (W6 1 [.gc, .S3 0 2 X1, .S3 0 4 D1, .gc] K) := (fP fu _ _ _ _ _ _ _ _ _ _ _ _ _).trans (by kernel_rfl)
theorem s21 (fu : Nat) : N3 Try.prog 21 (t21 fu) := by
 refine y0 (T := ⟨(aV fu), pw fu⟩) (m := 1) (gout := [.gc, .S3 0 2 X1, .S3 0 4 D1, .gc]) (k := 300) (MX fu) (fun fn body hf hb => ?_) (fun R args s K r h => ?_) (fun R args s K r h => ?_)
 ·have hc : body = dj := by
   have h1 : Try.prog.funcs[21]? = some Try.f21 := rfl
   rw [h1] at hf; cases hf
   have h2 : Try.f21.body = some dj := rfl
   rw [h2] at hb; cases hb; rfl
  subst hc
  exact R0.none _ _ _
 ·unfold t21 at h; split at h
  ·rfl
  ·cases h
 ·unfold t21 at h; split at h
  case h_2 => cases h
  iterate 2 (split at h; (case h_2 => cases h); rename_i hq; have hq := FT.J0 _ _ hq; subst hq)
  exact (e21 R K fu _ _ _ _ _ _ _ _ _ _ _ _).symm.trans h
def aX (fu : Nat) : FuncId -> Option (Bool × J1) := fun f => match Nat.beq f 21 with
 | true => some (false, OS (CA [.gc, .S3 0 2 X1, .S3 0 4 D1, .gc] (t21 fu)))
 | false => (aV fu) f
theorem MZ (fu : Nat) : C2 Try.prog (aX fu) := by
 intro f own told h
 unfold aX at h
 split at h
 ·rename_i hb
  cases h
  have := B6 hb
  subst this
  exact M4 (O1 (s21 fu))
 ·exact (MX fu) f own told h
end Go.Proofs.Ythlbahcggmbfaaa.V
end
noncomputable section
namespace Go.Proofs.Ythlbahcggmbfaaa.V
set_option maxRecDepth 100000
set_option maxHeartbeats 4000000
def dm : Code := match Try.f19.body with | some c => c | none => .skip
def sA {R : Type} (fu : Nat) (AL AC : Int) (AA : List (List D)) (AB : Bool) (AK : List (List D)) (AI : Bool) (AD AJ AE AG : Int) (AF : Bool) (AH : Int) (k0 : Option R) : Option R :=
 (k0)
def F19 {R : Type} := shut (@sA R)
theorem fR {R : Type} (fu : Nat) (AL AC : Int) (AA : List (List D)) (AB : Bool) (AK : List (List D)) (AI : Bool) (AD AJ AE AG : Int) (AF : Bool) (AH : Int) (k0 : Option R) : F19 fu AL AC AA AB AK AI AD AJ AE AG AF AH k0 = sA fu AL AC AA AB AK AI AD AJ AE AG AF AH k0 := by unfold F19; rw [O2]
def py (fu : Nat) : Nat -> Option M1 := fun _ => none
def t19 (fu : Nat) : J1 := fun _ args s K => match args, s with
 | [.ptr 0 0], [.obj [.int .i64 AL, .int .i64 AC, .fz U4 AA false, .bool AB, .fz C6 AK false, .bool AI, .int .i64 AD, .int .i64 AJ, .int .i64 AE, .int .i64 AG, .bool AF, .int .i64 AH]] => (match FT.F0 U4 X1 with | true => (match FT.F0 C6 D1 with | true => F19 fu AL AC AA AB AK AI AD AJ AE AG AF AH (K (.int .i64 (AC)) [.obj [.int .i64 (AL), .int .i64 (AC), .fz X1 (AA) false, .bool (AB), .fz D1 (AK) false, .bool (AI), .int .i64 (AD), .int .i64 (AJ), .int .i64 (AE), .int .i64 (AG), .bool (AF), .int .i64 (AH)]]) | false => none) | false => none)
 | _, _ => none
theorem e19 (R : Type) (K : UV -> O0 -> Option R) (fu : Nat) (AL AC : Int) (AA : List (List D)) (AB : Bool) (AK : List (List D)) (AI : Bool) (AD AJ AE AG : Int) (AF : Bool) (AH : Int) :
  F19 fu AL AC AA AB AK AI AD AJ AE AG AF AH (K (.int .i64 (AC)) [.obj [.int .i64 (AL), .int .i64 (AC), .fz X1 (AA) false, .bool (AB), .fz D1 (AK) false, .bool (AI), .int .i64 (AD), .int .i64 (AJ), .int .i64 (AE), .int .i64 (AG), .bool (AF), .int .i64 (AH)]]) = I6 Try.prog ⟨(aX fu), py fu⟩ 300 19 [.ptr 0 0] [.obj [.int .i64 AL, .int .i64 AC, .fz X1 AA false, .bool AB, .fz D1 AK false, .bool AI, .int .i64 AD, .int .i64 AJ, .int .i64 AE, .int .i64 AG, .bool AF, .int .i64 AH]] (W6 1 [.gc, .S3 0 2 X1, .S3 0 4 D1, .gc] K) := (fR fu _ _ _ _ _ _ _ _ _ _ _ _ _).trans (by kernel_rfl)
theorem s19 (fu : Nat) : N3 Try.prog 19 (t19 fu) := by
 refine y0 (T := ⟨(aX fu), py fu⟩) (m := 1) (gout := [.gc, .S3 0 2 X1, .S3 0 4 D1, .gc]) (k := 300) (MZ fu) (fun fn body hf hb => ?_) (fun R args s K r h => ?_) (fun R args s K r h => ?_)
 ·have hc : body = dm := by
   have h1 : Try.prog.funcs[19]? = some Try.f19 := rfl
   rw [h1] at hf; cases hf
   have h2 : Try.f19.body = some dm := rfl
   rw [h2] at hb; cases hb; rfl
  subst hc
  exact R0.none _ _ _
 ·unfold t19 at h; split at h
  ·rfl
  ·cases h
 ·unfold t19 at h; split at h
  case h_2 => cases h
  iterate 2 (split at h; (case h_2 => cases h); rename_i hq; have hq := FT.J0 _ _ hq; subst hq)
  exact (e19 R K fu _ _ _ _ _ _ _ _ _ _ _ _).symm.trans h
def aZ (fu : Nat) : FuncId -> Option (Bool × J1) := fun f => match Nat.beq f 19 with
 | true => some (false, OS (CA [.gc, .S3 0 2 X1, .S3 0 4 D1, .gc] (t19 fu)))
 | false => (aX fu) f
theorem Mb (fu : Nat) : C2 Try.prog (aZ fu) := by
 intro f own told h
 unfold aZ at h
 split at h
 ·rename_i hb
  cases h
  have := B6 hb
  subst this
  exact M4 (O1 (s19 fu))
 ·exact (MZ fu) f own told h
end Go.Proofs.Ythlbahcggmbfaaa.V
end
noncomputable section
namespace Go.Proofs.Ythlbahcggmbfaaa.V
set_option maxRecDepth 100000
set_option maxHeartbeats 4000000
def dp : Code := match Try.f17.body with | some c => c | none => .skip
def sB {R : Type} (fu : Nat) (AL AC : Int) (AA : List (List D)) (AB : Bool) (AK : List (List D)) (AI : Bool) (AD AJ AE AG : Int) (AF : Bool) (AH : Int) (k0 : Option R) : Option R :=
 (k0)
def F17 {R : Type} := shut (@sB R)
theorem fT {R : Type} (fu : Nat) (AL AC : Int) (AA : List (List D)) (AB : Bool) (AK : List (List D)) (AI : Bool) (AD AJ AE AG : Int) (AF : Bool) (AH : Int) (k0 : Option R) : F17 fu AL AC AA AB AK AI AD AJ AE AG AF AH k0 = sB fu AL AC AA AB AK AI AD AJ AE AG AF AH k0 := by unfold F17; rw [O2]
def qA (fu : Nat) : Nat -> Option M1 := fun _ => none
def t17 (fu : Nat) : J1 := fun _ args s K => match args, s with
 | [.ptr 0 0], [.obj [.int .i64 AL, .int .i64 AC, .fz U4 AA false, .bool AB, .fz C6 AK false, .bool AI, .int .i64 AD, .int .i64 AJ, .int .i64 AE, .int .i64 AG, .bool AF, .int .i64 AH]] => (match FT.F0 U4 X1 with | true => (match FT.F0 C6 D1 with | true => F17 fu AL AC AA AB AK AI AD AJ AE AG AF AH (K (.int .i64 (AD)) [.obj [.int .i64 (AL), .int .i64 (AC), .fz X1 (AA) false, .bool (AB), .fz D1 (AK) false, .bool (AI), .int .i64 (AD), .int .i64 (AJ), .int .i64 (AE), .int .i64 (AG), .bool (AF), .int .i64 (AH)]]) | false => none) | false => none)
 | _, _ => none
theorem e17 (R : Type) (K : UV -> O0 -> Option R) (fu : Nat) (AL AC : Int) (AA : List (List D)) (AB : Bool) (AK : List (List D)) (AI : Bool) (AD AJ AE AG : Int) (AF : Bool) (AH : Int) :
  F17 fu AL AC AA AB AK AI AD AJ AE AG AF AH (K (.int .i64 (AD)) [.obj [.int .i64 (AL), .int .i64 (AC), .fz X1 (AA) false, .bool (AB), .fz D1 (AK) false, .bool (AI), .int .i64 (AD), .int .i64 (AJ), .int .i64 (AE), .int .i64 (AG), .bool (AF), .int .i64 (AH)]]) = I6 Try.prog ⟨(aZ fu), qA fu⟩ 300 17 [.ptr 0 0] [.obj [.int .i64 AL, .int .i64 AC, .fz X1 AA false, .bool AB, .fz D1 AK false, .bool AI, .int .i64 AD, .int .i64 AJ, .int .i64 AE, .int .i64 AG, .bool AF, .int .i64 AH]] (W6 1 [.gc, .S3 0 2 X1, .S3 0 4 D1, .gc] K) := (fT fu _ _ _ _ _ _ _ _ _ _ _ _ _).trans (by kernel_rfl)
theorem s17 (fu : Nat) : N3 Try.prog 17 (t17 fu) := by
 refine y0 (T := ⟨(aZ fu), qA fu⟩) (m := 1) (gout := [.gc, .S3 0 2 X1, .S3 0 4 D1, .gc]) (k := 300) (Mb fu) (fun fn body hf hb => ?_) (fun R args s K r h => ?_) (fun R args s K r h => ?_)
 ·have hc : body = dp := by
   have h1 : Try.prog.funcs[17]? = some Try.f17 := rfl
   rw [h1] at hf; cases hf
   have h2 : Try.f17.body = some dp := rfl
   rw [h2] at hb; cases hb; rfl
  subst hc
  exact R0.none _ _ _
 ·unfold t17 at h; split at h
  ·rfl
  ·cases h
 ·unfold t17 at h; split at h
  case h_2 => cases h
  iterate 2 (split at h; (case h_2 => cases h); rename_i hq; have hq := FT.J0 _ _ hq; subst hq)
  exact (e17 R K fu _ _ _ _ _ _ _ _ _ _ _ _).symm.trans h
def ab (fu : Nat) : FuncId -> Option (Bool × J1) := fun f => match Nat.beq f 17 with
 | true => some (false, OS (CA [.gc, .S3 0 2 X1, .S3 0 4 D1, .gc] (t17 fu)))
 | false => (aZ fu) f
theorem Md (fu : Nat) : C2 Try.prog (ab fu) := by
 intro f own told h
 unfold ab at h
 split at h
 ·rename_i hb
  cases h
  have := B6 hb
  subst this
  exact M4 (O1 (s17 fu))
 ·exact (Mb fu) f own told h
end Go.Proofs.Ythlbahcggmbfaaa.V
end
noncomputable section
namespace Go.Proofs.Ythlbahcggmbfaaa.V
set_option maxRecDepth 100000
set_option maxHeartbeats 4000000
def dq : Code := match Try.f16.body with | some c => c | none => .skip
def oD {R : Type} (fu : Nat) (AL AC : Int) (AA : List (List D)) (AB : Bool) (AK : List (List D)) (AI : Bool) (AD AJ AE AG : Int) (AF : Bool) (AH : Int) (k0 : Option R) : Option R :=
 bif fits AK.length 16 then (k0) else none
def F16 {R : Type} := shut (@oD R)
theorem fU {R : Type} (fu : Nat) (AL AC : Int) (AA : List (List D)) (AB : Bool) (AK : List (List D)) (AI : Bool) (AD AJ AE AG : Int) (AF : Bool) (AH : Int) (k0 : Option R) : F16 fu AL AC AA AB AK AI AD AJ AE AG AF AH k0 = oD fu AL AC AA AB AK AI AD AJ AE AG AF AH k0 := by unfold F16; rw [O2]
def qB (fu : Nat) : Nat -> Option M1 := fun _ => none
def t16 (fu : Nat) : J1 := fun _ args s K => match args, s with
 | [.ptr 0 0], [.obj [.int .i64 AL, .int .i64 AC, .fz U4 AA false, .bool AB, .fz C6 AK false, .bool AI, .int .i64 AD, .int .i64 AJ, .int .i64 AE, .int .i64 AG, .bool AF, .int .i64 AH]] => (match FT.F0 U4 X1 with | true => (match FT.F0 C6 D1 with | true => F16 fu AL AC AA AB AK AI AD AJ AE AG AF AH (K (.own 1) [.obj [.int .i64 (AL), .int .i64 (AC), .fz X1 (AA) false, .bool (AB), .fz D1 (AK) false, .bool (AI), .int .i64 (AD), .int .i64 (AJ), .int .i64 (AE), .int .i64 (AG), .bool (AF), .int .i64 (AH)], .row D1 (AK)]) | false => none) | false => none)
 | _, _ => none
theorem e16 (R : Type) (K : UV -> O0 -> Option R) (fu : Nat) (AL AC : Int) (AA : List (List D)) (AB : Bool) (AK : List (List D)) (AI : Bool) (AD AJ AE AG : Int) (AF : Bool) (AH : Int) :
  F16 fu AL AC AA AB AK AI AD AJ AE AG AF AH (K (.own 1) [.obj [.int .i64 (AL), .int .i64 (AC), .fz X1 (AA) false, .bool (AB), .fz D1 (AK) false, .bool (AI), .int .i64 (AD), .int .i64 (AJ), .int .i64 (AE), .int .i64 (AG), .bool (AF), .int .i64 (AH)], .row D1 (AK)]) = I6 Try.prog ⟨(ab fu), qB fu⟩ 300 16 [.ptr 0 0] [.obj [.int .i64 AL, .int .i64 AC, .fz X1 AA false, .bool AB, .fz D1 AK false, .bool AI, .int .i64 AD, .int .i64 AJ, .int .i64 AE, .int .i64 AG, .bool AF, .int .i64 AH]] (W6 1 [.gc, .S3 0 2 X1, .S3 0 4 D1, .gc] K) := (fU fu _ _ _ _ _ _ _ _ _ _ _ _ _).trans (by kernel_rfl)
theorem s16 (fu : Nat) : N3 Try.prog 16 (t16 fu) := by
 refine y0 (T := ⟨(ab fu), qB fu⟩) (m := 1) (gout := [.gc, .S3 0 2 X1, .S3 0 4 D1, .gc]) (k := 300) (Md fu) (fun fn body hf hb => ?_) (fun R args s K r h => ?_) (fun R args s K r h => ?_)
 ·have hc : body = dq := by
   have h1 : Try.prog.funcs[16]? = some Try.f16 := rfl
   rw [h1] at hf; cases hf
   have h2 : Try.f16.body = some dq := rfl
   rw [h2] at hb; cases hb; rfl
  subst hc
  exact R0.none _ _ _
 ·unfold t16 at h; split at h
  ·rfl
  ·cases h
 ·unfold t16 at h; split at h
  case h_2 => cases h
  iterate 2 (split at h; (case h_2 => cases h); rename_i hq; have hq := FT.J0 _ _ hq; subst hq)
  exact (e16 R K fu _ _ _ _ _ _ _ _ _ _ _ _).symm.trans h
def ae (fu : Nat) : FuncId -> Option (Bool × J1) := fun f => match Nat.beq f 16 with
 | true => some (false, OS (CA [.gc, .S3 0 2 X1, .S3 0 4 D1, .gc] (t16 fu)))
 | false => (ab fu) f
theorem Me (fu : Nat) : C2 Try.prog (ae fu) := by
 intro f own told h
 unfold ae at h
 split at h
 ·rename_i hb
  cases h
  have := B6 hb
  subst this
  exact M4 (O1 (s16 fu))
 ·exact (Md fu) f own told h
end Go.Proofs.Ythlbahcggmbfaaa.V
end
noncomputable section
namespace Go.Proofs.Ythlbahcggmbfaaa.V
set_option maxRecDepth 100000
set_option maxHeartbeats 4000000
abbrev wS : List FT := [FT.int IntKind.i64, FT.row 8 [FT.int IntKind.i64], FT.bool, FT.row 16 [FT.str]]
def dk : Code := match Try.f20.body with | some c => c | none => .skip
def oB {R : Type} (fu : Nat) (AL AC : Int) (AA : List (List D)) (AB : Bool) (AK : List (List D)) (AI : Bool) (AD AJ AE AG : Int) (AF : Bool) (AH : Int) (k0 : (List D) -> Option R) : Option R :=
 F41 fu [D.int AC, D.row AA, D.bool AB] fun u3 => bif fits AK.length 16 then (k0 [D.int ((cell 0 u3).toInt), D.row ((cell 1 u3).C0), D.bool ((cell 2 u3).toBool), D.row (AK)]) else none
def F20 {R : Type} := shut (@oB R)
theorem fQ {R : Type} (fu : Nat) (AL AC : Int) (AA : List (List D)) (AB : Bool) (AK : List (List D)) (AI : Bool) (AD AJ AE AG : Int) (AF : Bool) (AH : Int) (k0 : (List D) -> Option R) : F20 fu AL AC AA AB AK AI AD AJ AE AG AF AH k0 = oB fu AL AC AA AB AK AI AD AJ AE AG AF AH k0 := by unfold F20; rw [O2]
def px (fu : Nat) : Nat -> Option M1 := fun _ => none
def t20 (fu : Nat) : J1 := fun _ args s K => match args, s with
 | [.ptr 0 0], [.obj [.int .i64 AL, .int .i64 AC, .fz U4 AA false, .bool AB, .fz C6 AK false, .bool AI, .int .i64 AD, .int .i64 AJ, .int .i64 AE, .int .i64 AG, .bool AF, .int .i64 AH]] => (match FT.F0 U4 X1 with | true => (match FT.F0 C6 D1 with | true => F20 fu AL AC AA AB AK AI AD AJ AE AG AF AH (fun o_ => K (.agg (L9 0 wS o_)) [.obj [.int .i64 (AL), .int .i64 (AC), .fz X1 (AA) false, .bool (AB), .fz D1 (AK) false, .bool (AI), .int .i64 (AD), .int .i64 (AJ), .int .i64 (AE), .int .i64 (AG), .bool (AF), .int .i64 (AH)]]) | false => none) | false => none)
 | _, _ => none
theorem e20 (R : Type) (K : UV -> O0 -> Option R) (fu : Nat) (AL AC : Int) (AA : List (List D)) (AB : Bool) (AK : List (List D)) (AI : Bool) (AD AJ AE AG : Int) (AF : Bool) (AH : Int) :
  F20 fu AL AC AA AB AK AI AD AJ AE AG AF AH (fun o_ => K (.agg (L9 0 wS o_)) [.obj [.int .i64 (AL), .int .i64 (AC), .fz X1 (AA) false, .bool (AB), .fz D1 (AK) false, .bool (AI), .int .i64 (AD), .int .i64 (AJ), .int .i64 (AE), .int .i64 (AG), .bool (AF), .int .i64 (AH)]]) = I6 Try.prog ⟨(ae fu), px fu⟩ 300 20 [.ptr 0 0] [.obj [.int .i64 AL, .int .i64 AC, .fz X1 AA false, .bool AB, .fz D1 AK false, .bool AI, .int .i64 AD, .int .i64 AJ, .int .i64 AE, .int .i64 AG, .bool AF, .int .i64 AH]] (W6 1 [.V9 0 [1] X1, .V9 0 [3] D1, .gc, .S3 0 2 X1, .S3 0 4 D1, .gc] K) := (fQ fu _ _ _ _ _ _ _ _ _ _ _ _ _).trans (by kernel_rfl)
theorem s20 (fu : Nat) : N3 Try.prog 20 (t20 fu) := by
 refine y0 (T := ⟨(ae fu), px fu⟩) (m := 1) (gout := [.V9 0 [1] X1, .V9 0 [3] D1, .gc, .S3 0 2 X1, .S3 0 4 D1, .gc]) (k := 300) (Me fu) (fun fn body hf hb => ?_) (fun R args s K r h => ?_) (fun R args s K r h => ?_)
 ·have hc : body = dk := by
   have h1 : Try.prog.funcs[20]? = some Try.f20 := rfl
   rw [h1] at hf; cases hf
   have h2 : Try.f20.body = some dk := rfl
   rw [h2] at hb; cases hb; rfl
  subst hc
  exact R0.none _ _ _
 ·unfold t20 at h; split at h
  ·rfl
  ·cases h
 ·unfold t20 at h; split at h
  case h_2 => cases h
  iterate 2 (split at h; (case h_2 => cases h); rename_i hq; have hq := FT.J0 _ _ hq; subst hq)
  exact (e20 R K fu _ _ _ _ _ _ _ _ _ _ _ _).symm.trans h
def aY (fu : Nat) : FuncId -> Option (Bool × J1) := fun f => match Nat.beq f 20 with
 | true => some (false, OS (CA [.gc, .S3 0 2 X1, .S3 0 4 D1, .gc] (t20 fu)))
 | false => (ae fu) f
theorem Ma (fu : Nat) : C2 Try.prog (aY fu) := by
 intro f own told h
 unfold aY at h
 split at h
 ·rename_i hb
  cases h
  have := B6 hb
  subst this
  exact M4 (O1 (s20 fu))
 ·exact (Me fu) f own told h
end Go.Proofs.Ythlbahcggmbfaaa.V
end
noncomputable section
namespace Go.Proofs.Ythlbahcggmbfaaa.V
set_option maxRecDepth 100000
set_option maxHeartbeats 4000000
def dZ : Code := match Try.f29.body with | some c => c | none => .skip
def nq {R : Type} (fu : Nat) (id : Int) (k_ : List D) (k0 : Int -> (List (List D)) -> Bool -> (List (List D)) -> Option R) : Option R :=
 F41 fu [D.int (cell 0 k_).toInt, D.row (cell 1 k_).C0, D.bool (cell 2 k_).toBool] fun u3 => bif fits (cell 3 k_).C0.length 16 then (k0 ((cell 0 u3).toInt) ((cell 1 u3).C0) ((cell 2 u3).toBool) ((cell 3 k_).C0)) else none
def F29 {R : Type} := shut (@nq R)
theorem fH {R : Type} (fu : Nat) (id : Int) (k_ : List D) (k0 : Int -> (List (List D)) -> Bool -> (List (List D)) -> Option R) : F29 fu id k_ k0 = nq fu id k_ k0 := by unfold F29; rw [O2]
def ph (fu : Nat) : Nat -> Option M1 := fun _ => none
def t29 (fu : Nat) : J1 := fun _ args s K => match args, s with
 | [.int .i64 id, .agg [.int .i64 q, .fz U4 q1 false, .bool q2, .fz C6 q3 false]], [] => (match FT.F0 U4 X1 with | true => (match FT.F0 C6 D1 with | true => F29 fu id [D.int q, D.row q1, D.bool q2, D.row q3] (fun o_ N1 J2 B3 => K (.ptr 0 0) [.obj [.int .i64 (id), .int .i64 o_, .fz X1 N1 false, .bool J2, .fz D1 B3 false, .bool (false), .int .i64 (0), .int .i64 (0), .int .i64 (0), .int .i64 (0), .bool (false), .int .i64 (0)]]) | false => none) | false => none)
 | _, _ => none
theorem e29 (R : Type) (K : UV -> O0 -> Option R) (fu : Nat) (id q : Int) (q1 : List (List D)) (q2 : Bool) (q3 : List (List D)) :
  F29 fu id [D.int q, D.row q1, D.bool q2, D.row q3] (fun o_ N1 J2 B3 => K (.ptr 0 0) [.obj [.int .i64 (id), .int .i64 o_, .fz X1 N1 false, .bool J2, .fz D1 B3 false, .bool (false), .int .i64 (0), .int .i64 (0), .int .i64 (0), .int .i64 (0), .bool (false), .int .i64 (0)]]) = I6 Try.prog ⟨(aY fu), ph fu⟩ 300 29 [.int .i64 id, .agg [.int .i64 q, .fz X1 q1 false, .bool q2, .fz D1 q3 false]] [] (W6 0 [.gc, .S3 0 2 X1, .S3 0 4 D1, .gc] K) := (fH fu _ _ _).trans (by kernel_rfl)
theorem s29 (fu : Nat) : N3 Try.prog 29 (t29 fu) := by
 refine y0 (T := ⟨(aY fu), ph fu⟩) (m := 0) (gout := [.gc, .S3 0 2 X1, .S3 0 4 D1, .gc]) (k := 300) (Ma fu) (fun fn body hf hb => ?_) (fun R args s K r h => ?_) (fun R args s K r h => ?_)
 ·have hc : body = dZ := by
   have h1 : Try.prog.funcs[29]? = some Try.f29 := rfl
   rw [h1] at hf; cases hf
   have h2 : Try.f29.body = some dZ := rfl
   rw [h2] at hb; cases hb; rfl
  subst hc
  exact R0.none _ _ _
 ·unfold t29 at h; split at h
  ·rfl
  ·cases h
 ·unfold t29 at h; split at h
  case h_2 => cases h
  iterate 2 (split at h; (case h_2 => cases h); rename_i hq; have hq := FT.J0 _ _ hq; subst hq)
  exact (e29 R K fu _ _ _ _ _).symm.trans h
def aP (fu : Nat) : FuncId -> Option (Bool × J1) := fun f => match Nat.beq f 29 with
 | true => some (false, CA [.V9 1 [1] X1, .V9 1 [3] D1] (t29 fu))
 | false => (aY fu) f
theorem MR (fu : Nat) : C2 Try.prog (aP fu) := by
 intro f own told h
 unfold aP at h
 split at h
 ·rename_i hb
  cases h
  have := B6 hb
  subst this
  exact O1 (s29 fu)
 ·exact (Ma fu) f own told h
end Go.Proofs.Ythlbahcggmbfaaa.V
end
noncomputable section
namespace Go.Proofs.Ythlbahcggmbfaaa.V
set_option maxRecDepth 100000
set_option maxHeartbeats 4000000
def db : Code := match Try.f27.body with | some c => c | none => .skip
def nt {R : Type} (fu : Nat) (AL AC : Int) (AA : List (List D)) (AB : Bool) (AK : List (List D)) (AI : Bool) (AD AJ AE AG : Int) (AF : Bool) (AH : Int) (k0 : Bool -> Option R) : Option R :=
 F24 fu AL AC AA AB AK AI AD AJ AE AG AF AH fun u3 => bif u3 then bif AB then bif AF then (k0 (decide (AH <= S1 AK.length))) else (k0 false) else (k0 false) else (k0 false)
def F27 {R : Type} := shut (@nt R)
theorem fJ {R : Type} (fu : Nat) (AL AC : Int) (AA : List (List D)) (AB : Bool) (AK : List (List D)) (AI : Bool) (AD AJ AE AG : Int) (AF : Bool) (AH : Int) (k0 : Bool -> Option R) : F27 fu AL AC AA AB AK AI AD AJ AE AG AF AH k0 = nt fu AL AC AA AB AK AI AD AJ AE AG AF AH k0 := by unfold F27; rw [O2]
def pk (fu : Nat) : Nat -> Option M1 := fun _ => none
def t27 (fu : Nat) : J1 := fun _ args s K => match args, s with
 | [.ptr 0 0], [.obj [.int .i64 AL, .int .i64 AC, .fz U4 AA false, .bool AB, .fz C6 AK false, .bool AI, .int .i64 AD, .int .i64 AJ, .int .i64 AE, .int .i64 AG, .bool AF, .int .i64 AH]] => (match FT.F0 U4 X1 with | true => (match FT.F0 C6 D1 with | true => F27 fu AL AC AA AB AK AI AD AJ AE AG AF AH (fun o_ => K (.bool o_) [.obj [.int .i64 (AL), .int .i64 (AC), .fz X1 (AA) false, .bool (AB), .fz D1 (AK) false, .bool (AI), .int .i64 (AD), .int .i64 (AJ), .int .i64 (AE), .int .i64 (AG), .bool (AF), .int .i64 (AH)]]) | false => none) | false => none)
 | _, _ => none
theorem e27 (R : Type) (K : UV -> O0 -> Option R) (fu : Nat) (AL AC : Int) (AA : List (List D)) (AB : Bool) (AK : List (List D)) (AI : Bool) (AD AJ AE AG : Int) (AF : Bool) (AH : Int) :
  F27 fu AL AC AA AB AK AI AD AJ AE AG AF AH (fun o_ => K (.bool o_) [.obj [.int .i64 (AL), .int .i64 (AC), .fz X1 (AA) false, .bool (AB), .fz D1 (AK) false, .bool (AI), .int .i64 (AD), .int .i64 (AJ), .int .i64 (AE), .int .i64 (AG), .bool (AF), .int .i64 (AH)]]) = I6 Try.prog ⟨(aP fu), pk fu⟩ 300 27 [.ptr 0 0] [.obj [.int .i64 AL, .int .i64 AC, .fz X1 AA false, .bool AB, .fz D1 AK false, .bool AI, .int .i64 AD, .int .i64 AJ, .int .i64 AE, .int .i64 AG, .bool AF, .int .i64 AH]] (W6 1 [.gc, .S3 0 2 X1, .S3 0 4 D1, .gc] K) := (fJ fu _ _ _ _ _ _ _ _ _ _ _ _ _).trans (by kernel_rfl)
theorem s27 (fu : Nat) : N3 Try.prog 27 (t27 fu) := by
 refine y0 (T := ⟨(aP fu), pk fu⟩) (m := 1) (gout := [.gc, .S3 0 2 X1, .S3 0 4 D1, .gc]) (k := 300) (MR fu) (fun fn body hf hb => ?_) (fun R args s K r h => ?_) (fun R args s K r h => ?_)
 ·have hc : body = db := by
   have h1 : Try.prog.funcs[27]? = some Try.f27 := rfl
   rw [h1] at hf; cases hf
   have h2 : Try.f27.body = some db := rfl
   rw [h2] at hb; cases hb; rfl
  subst hc
  exact R0.none _ _ _
 ·unfold t27 at h; split at h
  ·rfl
  ·cases h
 ·unfold t27 at h; split at h
  case h_2 => cases h
  iterate 2 (split at h; (case h_2 => cases h); rename_i hq; have hq := FT.J0 _ _ hq; subst hq)
  exact (e27 R K fu _ _ _ _ _ _ _ _ _ _ _ _).symm.trans h
def aR (fu : Nat) : FuncId -> Option (Bool × J1) := fun f => match Nat.beq f 27 with
 | true => some (false, OS (CA [.gc, .S3 0 2 X1, .S3 0 4 D1, .gc] (t27 fu)))
 | false => (aP fu) f
theorem MT (fu : Nat) : C2 Try.prog (aR fu) := by
 intro f own told h
 unfold aR at h
 split at h
 ·rename_i hb
  cases h
  have := B6 hb
  subst this
  exact M4 (O1 (s27 fu))
 ·exact (MR fu) f own told h
end Go.Proofs.Ythlbahcggmbfaaa.V
end
noncomputable section
namespace Go.Proofs.Ythlbahcggmbfaaa.V
set_option maxRecDepth 100000
set_option maxHeartbeats 4000000
def dX : Code := match Try.f33.body with | some c => c | none => .skip
def ry {R : Type} (fu : Nat) (AL AC : Int) (AA : List (List D)) (AB : Bool) (AK : List (List D)) (AI : Bool) (AD AJ AE AG : Int) (AF : Bool) (AH : Int) (k0 : Int -> (List (List D)) -> Option R) : Option R :=
 bif decide (0 <= AJ /\ AJ <= AD) && H9 AD AK.length then bif fits (part AK AJ.toNat AD.toNat).length 16 then (k0 (IntKind.i64.wrap (AJ + 1)) (part AK AJ.toNat AD.toNat)) else none else none
def F33 {R : Type} := shut (@ry R)
theorem oK {R : Type} (fu : Nat) (AL AC : Int) (AA : List (List D)) (AB : Bool) (AK : List (List D)) (AI : Bool) (AD AJ AE AG : Int) (AF : Bool) (AH : Int) (k0 : Int -> (List (List D)) -> Option R) : F33 fu AL AC AA AB AK AI AD AJ AE AG AF AH k0 = ry fu AL AC AA AB AK AI AD AJ AE AG AF AH k0 := by unfold F33; rw [O2]
def pf (fu : Nat) : Nat -> Option M1 := fun _ => none
def t33 (fu : Nat) : J1 := fun _ args s K => match args, s with
 | [.ptr 0 0], [.obj [.int .i64 AL, .int .i64 AC, .fz U4 AA false, .bool AB, .fz C6 AK false, .bool AI, .int .i64 AD, .int .i64 AJ, .int .i64 AE, .int .i64 AG, .bool AF, .int .i64 AH]] => (match FT.F0 U4 X1 with | true => (match FT.F0 C6 D1 with | true => F33 fu AL AC AA AB AK AI AD AJ AE AG AF AH (fun o_ N1 => K (.tuple [.int .i64 o_, .own 1]) [.obj [.int .i64 (AL), .int .i64 (AC), .fz X1 (AA) false, .bool (AB), .fz D1 (AK) false, .bool (AI), .int .i64 (AD), .int .i64 (AD), .int .i64 (AE), .int .i64 (AG), .bool (AF), .int .i64 (AH)], .row D1 N1]) | false => none) | false => none)
 | _, _ => none
theorem e33 (R : Type) (K : UV -> O0 -> Option R) (fu : Nat) (AL AC : Int) (AA : List (List D)) (AB : Bool) (AK : List (List D)) (AI : Bool) (AD AJ AE AG : Int) (AF : Bool) (AH : Int) :
  F33 fu AL AC AA AB AK AI AD AJ AE AG AF AH (fun o_ N1 => K (.tuple [.int .i64 o_, .own 1]) [.obj [.int .i64 (AL), .int .i64 (AC), .fz X1 (AA) false, .bool (AB), .fz D1 (AK) false, .bool (AI), .int .i64 (AD), .int .i64 (AD), .int .i64 (AE), .int .i64 (AG), .bool (AF), .int .i64 (AH)], .row D1 N1]) = I6 Try.prog ⟨(aR fu), pf fu⟩ 300 33 [.ptr 0 0] [.obj [.int .i64 AL, .int .i64 AC, .fz X1 AA false, .bool AB, .fz D1 AK false, .bool AI, .int .i64 AD, .int .i64 AJ, .int .i64 AE, .int .i64 AG, .bool AF, .int .i64 AH]] (W6 1 [.gc, .S3 0 2 X1, .S3 0 4 D1, .gc] K) := (oK fu _ _ _ _ _ _ _ _ _ _ _ _ _).trans (by kernel_rfl)
theorem s33 (fu : Nat) : N3 Try.prog 33 (t33 fu) := by
 refine y0 (T := ⟨(aR fu), pf fu⟩) (m := 1) (gout := [.gc, .S3 0 2 X1, .S3 0 4 D1, .gc]) (k := 300) (MT fu) (fun fn body hf hb => ?_) (fun R args s K r h => ?_) (fun R args s K r h => ?_)
 ·have hc : body = dX := by
   have h1 : Try.prog.funcs[33]? = some Try.f33 := rfl
   rw [h1] at hf; cases hf
   have h2 : Try.f33.body = some dX := rfl
   rw [h2] at hb; cases hb; rfl
  subst hc
  exact R0.none _ _ _
 ·unfold t33 at h; split at h
  ·rfl
  ·cases h
 ·unfold t33 at h; split at h
  case h_2 => cases h
  iterate 2 (split at h; (case h_2 => cases h); rename_i hq; have hq := FT.J0 _ _ hq; subst hq)
  exact (e33 R K fu _ _ _ _ _ _ _ _ _ _ _ _).symm.trans h
def aM (fu : Nat) : FuncId -> Option (Bool × J1) := fun f => match Nat.beq f 33 with
 | true => some (false, OS (CA [.gc, .S3 0 2 X1, .S3 0 4 D1, .gc] (t33 fu)))
 | false => (aR fu) f
theorem MO (fu : Nat) : C2 Try.prog (aM fu) := by
 intro f own told h
 unfold aM at h
 split at h
 ·rename_i hb
  cases h
  have := B6 hb
  subst this
  exact M4 (O1 (s33 fu))
 ·exact (MT fu) f own told h
end Go.Proofs.Ythlbahcggmbfaaa.V
end
noncomputable section
namespace Go.Proofs.Ythlbahcggmbfaaa.V
set_option maxRecDepth 100000
set_option maxHeartbeats 4000000
abbrev L2 : List FT := [FT.int IntKind.i64, FT.int IntKind.i64, FT.int IntKind.i64, FT.int IntKind.i64, FT.int IntKind.i64, FT.int IntKind.i64, FT.bool, FT.str]
def dN : Code := match Try.f48.body with | some c => c | none => .skip
def nV {R : Type} (fu : Nat) (index : Int) (has : Bool) (AL AC : Int) (AA : List (List D)) (AB : Bool) (AK : List (List D)) (AI : Bool) (AD AJ AE AG : Int) (AF : Bool) (AH : Int) (k0 : (List (List D)) -> Option R) : Option R :=
 F26 fu [D.int AC, D.row AA, D.bool AB] AL fun u3 => bif decide (u3 < 0) then (k0 []) else bif has then bif within index AK.length then (k0 ([[D.int 0, D.int AL, D.int u3, D.int AC, D.int index, D.int AG, D.bool has, D.str (cell 0 (elem index.toNat AK)).toStr]])) else none else (k0 ([[D.int 0, D.int AL, D.int u3, D.int AC, D.int index, D.int AG, D.bool has, D.str (ByteArray.mk #[])]]))
def F48 {R : Type} := shut (@nV R)
theorem eh {R : Type} (fu : Nat) (index : Int) (has : Bool) (AL AC : Int) (AA : List (List D)) (AB : Bool) (AK : List (List D)) (AI : Bool) (AD AJ AE AG : Int) (AF : Bool) (AH : Int) (k0 : (List (List D)) -> Option R) : F48 fu index has AL AC AA AB AK AI AD AJ AE AG AF AH k0 = nV fu index has AL AC AA AB AK AI AD AJ AE AG AF AH k0 := by unfold F48; rw [O2]
def pU (fu : Nat) : Nat -> Option M1 := fun _ => none
def t48 (fu : Nat) : J1 := fun _ args s K => match args, s with
 | [.ptr 0 0, .int .i64 index, .bool has], [.obj [.int .i64 AL, .int .i64 AC, .fz U4 AA false, .bool AB, .fz C6 AK false, .bool AI, .int .i64 AD, .int .i64 AJ, .int .i64 AE, .int .i64 AG, .bool AF, .int .i64 AH]] => (match FT.F0 U4 X1 with | true => (match FT.F0 C6 D1 with | true => F48 fu index has AL AC AA AB AK AI AD AJ AE AG AF AH (fun o_ => K (.own 1) [.obj [.int .i64 (AL), .int .i64 (AC), .fz X1 (AA) false, .bool (AB), .fz D1 (AK) false, .bool (AI), .int .i64 (AD), .int .i64 (AJ), .int .i64 (AE), .int .i64 (AG), .bool (AF), .int .i64 (AH)], .row L2 o_]) | false => none) | false => none)
 | _, _ => none
theorem e48 (R : Type) (K : UV -> O0 -> Option R) (fu : Nat) (index : Int) (has : Bool) (AL AC : Int) (AA : List (List D)) (AB : Bool) (AK : List (List D)) (AI : Bool) (AD AJ AE AG : Int) (AF : Bool) (AH : Int) :
  F48 fu index has AL AC AA AB AK AI AD AJ AE AG AF AH (fun o_ => K (.own 1) [.obj [.int .i64 (AL), .int .i64 (AC), .fz X1 (AA) false, .bool (AB), .fz D1 (AK) false, .bool (AI), .int .i64 (AD), .int .i64 (AJ), .int .i64 (AE), .int .i64 (AG), .bool (AF), .int .i64 (AH)], .row L2 o_]) = I6 Try.prog ⟨(aM fu), pU fu⟩ 300 48 [.ptr 0 0, .int .i64 index, .bool has] [.obj [.int .i64 AL, .int .i64 AC, .fz X1 AA false, .bool AB, .fz D1 AK false, .bool AI, .int .i64 AD, .int .i64 AJ, .int .i64 AE, .int .i64 AG, .bool AF, .int .i64 AH]] (W6 1 [.j9 0 [] L2, .gc, .S3 0 2 X1, .S3 0 4 D1, .gc] K) := (eh fu _ _ _ _ _ _ _ _ _ _ _ _ _ _ _).trans (by kernel_rfl)
theorem s48 (fu : Nat) : N3 Try.prog 48 (t48 fu) := by
 refine y0 (T := ⟨(aM fu), pU fu⟩) (m := 1) (gout := [.j9 0 [] L2, .gc, .S3 0 2 X1, .S3 0 4 D1, .gc]) (k := 300) (MO fu) (fun fn body hf hb => ?_) (fun R args s K r h => ?_) (fun R args s K r h => ?_)
 ·have hc : body = dN := by
   have h1 : Try.prog.funcs[48]? = some Try.f48 := rfl
   rw [h1] at hf; cases hf
   have h2 : Try.f48.body = some dN := rfl
   rw [h2] at hb; cases hb; rfl
  subst hc
  exact R0.none _ _ _
 ·unfold t48 at h; split at h
  ·rfl
  ·cases h
 ·unfold t48 at h; split at h
  case h_2 => cases h
  iterate 2 (split at h; (case h_2 => cases h); rename_i hq; have hq := FT.J0 _ _ hq; subst hq)
  exact (e48 R K fu _ _ _ _ _ _ _ _ _ _ _ _ _ _).symm.trans h
def Xu (fu : Nat) : FuncId -> Option (Bool × J1) := fun f => match Nat.beq f 48 with
 | true => some (false, OS (CA [.gc, .S3 0 2 X1, .S3 0 4 D1, .gc] (t48 fu)))
 | false => (aM fu) f
theorem HH (fu : Nat) : C2 Try.prog (Xu fu) := by
 intro f own told h
 unfold Xu at h
 split at h
 ·rename_i hb
  cases h
  have := B6 hb
  subst this
  exact M4 (O1 (s48 fu))
 ·exact (MO fu) f own told h
end Go.Proofs.Ythlbahcggmbfaaa.V
end
noncomputable section
namespace Go.Proofs.Ythlbahcggmbfaaa.V
set_option maxRecDepth 100000
set_option maxHeartbeats 4000000
def Hc : Code := match Try.f31.body with | some c => c | none => .skip
theorem XT : N0 Hc 122 = some (.loop (V1 (N0 Hc 122))) := by kernel_rfl
def Ga {R : Type} (fu : Nat) (r r1 : Int) (r2 : List (List D)) (r3 : Bool) (r4 : List (List D)) (r5 : Bool) (r6 r7 r8 r9 : Int) (r10 : Bool) (r11 : Int) : Nat -> Int -> (List (List D)) -> ((List (List D)) -> Option R) -> Option R
 | 0, _, _, _ => none
 | n + 1, k_, out, k0 => bif decide (k_ < S1 r4.length) then bif decide (k_ < IntKind.i64.wrap (r8 + 8)) then F48 fu k_ true r r1 r2 r3 r4 r5 r6 r7 r8 r9 r10 r11 fun u3 => bif fits (out.length + u3.length) 72 then (Ga fu r r1 r2 r3 r4 r5 r6 r7 r8 r9 r10 r11 n (IntKind.i64.wrap (k_ + 1)) (out ++ u3) k0) else none else (k0 out) else (k0 out)
def IC (fu n : Nat) : M1 := fun _ e s K => match e, s with
 | [.ptr 0 0, .own 1, .int .i64 k_], [.obj [.int .i64 r, .int .i64 r1, .fz U4 r2 false, .bool r3, .fz C6 r4 false, .bool r5, .int .i64 r6, .int .i64 r7, .int .i64 r8, .int .i64 r9, .bool r10, .int .i64 r11], .row Ag out] => (match FT.F0 U4 X1 with | true => (match FT.F0 C6 D1 with | true => (match FT.F0 Ag L2 with | true => Ga fu r r1 r2 r3 r4 r5 r6 r7 r8 r9 r10 r11 n k_ out (fun o_ => K (.exit 0) (I0 (D0 4 0x9) [.ptr 0 0, .own 1]) [.obj [.int .i64 (r), .int .i64 (r1), .fz X1 (r2) false, .bool (r3), .fz D1 (r4) false, .bool (r5), .int .i64 (r6), .int .i64 (r7), .int .i64 (r8), .int .i64 (r9), .bool (r10), .int .i64 (r11)], .row L2 o_]) | false => none) | false => none) | false => none)
 | _, _ => none
def SW (fu : Nat) : Nat -> Option M1 := fun _ => none
theorem jE (fu n : Nat) (R : Type) (K : Y2 -> R1 -> O0 -> Option R) (k_ r r1 : Int) (r2 : List (List D)) (r3 : Bool) (r4 : List (List D)) (r5 : Bool) (r6 r7 r8 r9 : Int) (r10 : Bool) (r11 : Int) (out : List (List D)) :
  Ga fu r r1 r2 r3 r4 r5 r6 r7 r8 r9 r10 r11 (n + 1) k_ out (fun o_ => K (.exit 0) (I0 (D0 4 0x9) [.ptr 0 0, .own 1]) [.obj [.int .i64 (r), .int .i64 (r1), .fz X1 (r2) false, .bool (r3), .fz D1 (r4) false, .bool (r5), .int .i64 (r6), .int .i64 (r7), .int .i64 (r8), .int .i64 (r9), .bool (r10), .int .i64 (r11)], .row L2 o_]) = n4 Try.prog (Xu fu) 300 (SW fu) 244 (V1 (N0 Hc 122)) (I0 (D0 5 0x19) [.ptr 0 0, .own 1, .int .i64 k_]) [.obj [.int .i64 r, .int .i64 r1, .fz X1 r2 false, .bool r3, .fz D1 r4 false, .bool r5, .int .i64 r6, .int .i64 r7, .int .i64 r8, .int .i64 r9, .bool r10, .int .i64 r11], .row L2 out] (BU 1 [.live (D0 5 0x19), .j9 3 [] L2, .gc] [.live (D0 4 0xd), .gc] (E8 (D0 5 0x19) (IC fu n)) K) := by kernel_rfl
theorem gw (fu : Nat) : R0 Try.prog 1 Hc (SW fu) := R0.none _ _ _
theorem gM (fu : Nat) : ∀ n, l4 Try.prog 1 (.loop (V1 (N0 Hc 122))) (E8 (D0 5 0x19) (IC fu n)) := by
 refine H4 (gin := [.live (D0 5 0x19), .j9 3 [] L2, .gc]) (gout := [.live (D0 4 0xd), .gc]) (k := 300) (HH fu) (gw fu) (by decide) XT (fun R e s K => ?_) (fun n R e s K r h => ?_)
 ·unfold IC; repeat' split
  all_goals rfl
 ·unfold IC at h; split at h
  case h_2 => cases h
  iterate 3 (split at h; (case h_2 => cases h); rename_i hq; have hq := FT.J0 _ _ hq; subst hq)
  exact (jE fu n R K _ _ _ _ _ _ _ _ _ _ _ _ _ _).symm.trans h
def nk {R : Type} (fu : Nat) (AL AC : Int) (AA : List (List D)) (AB : Bool) (AK : List (List D)) (AI : Bool) (AD AJ AE AG : Int) (AF : Bool) (AH : Int) (k0 : (List (List D)) -> Option R) : Option R :=
 bif !AI then (k0 []) else Ga fu AL AC AA AB AK AI AD AJ AE AG AF AH fu AE [] fun u3 => bif decide (0 < S1 u3.length) then (k0 u3) else F48 fu (S1 AK.length) false AL AC AA AB AK AI AD AJ AE AG AF AH fun N1 => (k0 N1)
def F31 {R : Type} := shut (@nk R)
theorem fF {R : Type} (fu : Nat) (AL AC : Int) (AA : List (List D)) (AB : Bool) (AK : List (List D)) (AI : Bool) (AD AJ AE AG : Int) (AF : Bool) (AH : Int) (k0 : (List (List D)) -> Option R) : F31 fu AL AC AA AB AK AI AD AJ AE AG AF AH k0 = nk fu AL AC AA AB AK AI AD AJ AE AG AF AH k0 := by unfold F31; rw [O2]
def gf (fu : Nat) : Nat -> Option M1 := fun p => match Nat.beq p 122 with | true => some (Ie 1 [.live (D0 5 0x19), .j9 3 [] L2, .gc] (E8 (D0 5 0x19) (IC fu fu))) | false => none
def t31 (fu : Nat) : J1 := fun _ args s K => match args, s with
 | [.ptr 0 0], [.obj [.int .i64 AL, .int .i64 AC, .fz U4 AA false, .bool AB, .fz C6 AK false, .bool AI, .int .i64 AD, .int .i64 AJ, .int .i64 AE, .int .i64 AG, .bool AF, .int .i64 AH]] => (match FT.F0 U4 X1 with | true => (match FT.F0 C6 D1 with | true => F31 fu AL AC AA AB AK AI AD AJ AE AG AF AH (fun o_ => K (.own 1) [.obj [.int .i64 (AL), .int .i64 (AC), .fz X1 (AA) false, .bool (AB), .fz D1 (AK) false, .bool (AI), .int .i64 (AD), .int .i64 (AJ), .int .i64 (AE), .int .i64 (AG), .bool (AF), .int .i64 (AH)], .row L2 o_]) | false => none) | false => none)
 | _, _ => none
theorem e31 (R : Type) (K : UV -> O0 -> Option R) (fu : Nat) (AL AC : Int) (AA : List (List D)) (AB : Bool) (AK : List (List D)) (AI : Bool) (AD AJ AE AG : Int) (AF : Bool) (AH : Int) :
  F31 fu AL AC AA AB AK AI AD AJ AE AG AF AH (fun o_ => K (.own 1) [.obj [.int .i64 (AL), .int .i64 (AC), .fz X1 (AA) false, .bool (AB), .fz D1 (AK) false, .bool (AI), .int .i64 (AD), .int .i64 (AJ), .int .i64 (AE), .int .i64 (AG), .bool (AF), .int .i64 (AH)], .row L2 o_]) = I6 Try.prog ⟨(Xu fu), gf fu⟩ 300 31 [.ptr 0 0] [.obj [.int .i64 AL, .int .i64 AC, .fz X1 AA false, .bool AB, .fz D1 AK false, .bool AI, .int .i64 AD, .int .i64 AJ, .int .i64 AE, .int .i64 AG, .bool AF, .int .i64 AH]] (W6 1 [.j9 0 [] L2, .gc, .S3 0 2 X1, .S3 0 4 D1, .gc] K) := (fF fu _ _ _ _ _ _ _ _ _ _ _ _ _).trans (by kernel_rfl)
theorem s31 (fu : Nat) : N3 Try.prog 31 (t31 fu) := by
 refine y0 (T := ⟨(Xu fu), gf fu⟩) (m := 1) (gout := [.j9 0 [] L2, .gc, .S3 0 2 X1, .S3 0 4 D1, .gc]) (k := 300) (HH fu) (fun fn body hf hb => ?_) (fun R args s K r h => ?_) (fun R args s K r h => ?_)
 ·have hc : body = Hc := by
   have h1 : Try.prog.funcs[31]? = some Try.f31 := rfl
   rw [h1] at hf; cases hf
   have h2 : Try.f31.body = some Hc := rfl
   rw [h2] at hb; cases hb; rfl
  subst hc
  exact fun p told h b hb => by
   replace h : gf fu p = some told := h
   unfold gf at h
   split at h
   ·rename_i hp
    cases h
    have := B6 hp
    subst this
    rw [XT] at hb
    cases hb
    exact C3 (gM fu _)
   ·
    cases h

 ·unfold t31 at h; split at h
  ·rfl
  ·cases h
 ·unfold t31 at h; split at h
  case h_2 => cases h
  iterate 2 (split at h; (case h_2 => cases h); rename_i hq; have hq := FT.J0 _ _ hq; subst hq)
  exact (e31 R K fu _ _ _ _ _ _ _ _ _ _ _ _).symm.trans h
def QE (fu : Nat) : FuncId -> Option (Bool × J1) := fun f => match Nat.beq f 31 with
 | true => some (false, OS (CA [.gc, .S3 0 2 X1, .S3 0 4 D1, .gc] (t31 fu)))
 | false => (Xu fu) f
theorem Ak (fu : Nat) : C2 Try.prog (QE fu) := by
 intro f own told h
 unfold QE at h
 split at h
 ·rename_i hb
  cases h
  have := B6 hb
  subst this
  exact M4 (O1 (s31 fu))
 ·exact (HH fu) f own told h
end Go.Proofs.Ythlbahcggmbfaaa.V
end
noncomputable section
namespace Go.Proofs.Ythlbahcggmbfaaa.V
set_option maxRecDepth 100000
set_option maxHeartbeats 4000000
def m6 : Code := match Try.f32.body with | some c => c | none => .skip
theorem eO : N0 m6 15 = some (G3 (N0 m6 15)) := by kernel_rfl
theorem XS : N0 m6 491 = some (G3 (N0 m6 491)) := by kernel_rfl
def Lj {R : Type} (fu : Nat) (x : Bool) (r4 : List (List D)) (r6 r7 : Int) (k0 : (List (List D)) -> Int -> Int -> Option R) : Option R :=
 bif x then (k0 [] 0 0) else (k0 r4 r6 r7)
def QI (fu : Nat) : M1 := fun _ e s K => match e, s with
 | [.ptr 0 0, .ptr 1 0, .bool w7, .bool x], [.obj [.int .i64 r, .int .i64 r1, .fz U4 r2 false, .bool r3, .fz C6 r4 false, .bool r5, .int .i64 r6, .int .i64 r7, .int .i64 r8, .int .i64 r9, .bool r10, .int .i64 r11], .obj [.int .i64 c, .fz Ag c1 false, .bool c2]] => (match FT.F0 U4 X1 with | true => (match FT.F0 C6 D1 with | true => (match FT.F0 Ag X1 with | true => Lj fu x r4 r6 r7 (fun o_ N1 J2 => K .normal (I0 (D0 6 0x29) [.ptr 0 0, .ptr 1 0, .bool (w7)]) [.obj [.int .i64 (r), .int .i64 (r1), .fz X1 (r2) false, .bool (r3), .fz D1 o_ false, .bool (r5), .int .i64 N1, .int .i64 J2, .int .i64 (r8), .int .i64 (r9), .bool (r10), .int .i64 (r11)], .obj [.int .i64 (c), .fz X1 (c1) false, .bool (c2)]]) | false => none) | false => none) | false => none)
 | _, _ => none
def SV (fu : Nat) : Nat -> Option M1 := fun _ => none
theorem jD (fu : Nat) (R : Type) (K : Y2 -> R1 -> O0 -> Option R) (w7 x : Bool) (r r1 : Int) (r2 : List (List D)) (r3 : Bool) (r4 : List (List D)) (r5 : Bool) (r6 r7 r8 r9 : Int) (r10 : Bool) (r11 c : Int) (c1 : List (List D)) (c2 : Bool) :
  Lj fu x r4 r6 r7 (fun o_ N1 J2 => K .normal (I0 (D0 6 0x29) [.ptr 0 0, .ptr 1 0, .bool (w7)]) [.obj [.int .i64 (r), .int .i64 (r1), .fz X1 (r2) false, .bool (r3), .fz D1 o_ false, .bool (r5), .int .i64 N1, .int .i64 J2, .int .i64 (r8), .int .i64 (r9), .bool (r10), .int .i64 (r11)], .obj [.int .i64 (c), .fz X1 (c1) false, .bool (c2)]]) = n4 Try.prog (QE fu) 300 (SV fu) 491 (G3 (N0 m6 491)) (I0 (D0 47 0x400000000029) [.ptr 0 0, .ptr 1 0, .bool w7, .bool x]) [.obj [.int .i64 r, .int .i64 r1, .fz X1 r2 false, .bool r3, .fz D1 r4 false, .bool r5, .int .i64 r6, .int .i64 r7, .int .i64 r8, .int .i64 r9, .bool r10, .int .i64 r11], .obj [.int .i64 c, .fz X1 c1 false, .bool c2]] (UL 1 [.live (D0 6 0x39), .gc, .S3 0 4 D1, .gc] K) := by kernel_rfl
theorem gv (fu : Nat) : R0 Try.prog 1 m6 (SV fu) := R0.none _ _ _
theorem gL (fu : Nat) : l4 Try.prog 1 (G3 (N0 m6 491)) (E8 (D0 47 0x400000000029) (QI fu)) := by
 refine J5 (gout := [.live (D0 6 0x39), .gc, .S3 0 4 D1, .gc]) (k := 300) (Ak fu) (gv fu) (by decide) XS (fun R e s K r h => ?_)
 unfold QI at h; split at h
 case h_2 => cases h
 iterate 3 (split at h; (case h_2 => cases h); rename_i hq; have hq := FT.J0 _ _ hq; subst hq)
 exact (jD fu R K _ _ _ _ _ _ _ _ _ _ _ _ _ _ _ _ _).symm.trans h
theorem eN : N0 m6 63 = some (G3 (N0 m6 63)) := by kernel_rfl
theorem XR : N0 m6 511 = some (G3 (N0 m6 511)) := by kernel_rfl
def GZ {R : Type} (fu : Nat) (w7 : Bool) (r r1 : Int) (r2 : List (List D)) (r3 : Bool) (r4 : List (List D)) (r5 : Bool) (r6 r7 r8 r9 : Int) (r10 : Bool) (r11 : Int) (k0 : Int -> Int -> Bool -> Int -> (List (List D)) -> Option R) : Option R :=
 bif !w7 then F31 fu r r1 r2 r3 r4 r5 r6 r7 0 (S1 r4.length) false 0 fun u3 => (k0 0 (S1 r4.length) false 0 u3) else F31 fu r r1 r2 r3 r4 r5 r6 r7 r8 r9 r10 r11 fun N1 => (k0 r8 r9 r10 r11 N1)
def QH (fu : Nat) : M1 := fun _ e s K => match e, s with
 | [.ptr 0 0, .bool w7], [.obj [.int .i64 r, .int .i64 r1, .fz U4 r2 false, .bool r3, .fz C6 r4 false, .bool r5, .int .i64 r6, .int .i64 r7, .int .i64 r8, .int .i64 r9, .bool r10, .int .i64 r11]] => (match FT.F0 U4 X1 with | true => (match FT.F0 C6 D1 with | true => GZ fu w7 r r1 r2 r3 r4 r5 r6 r7 r8 r9 r10 r11 (fun o_ N1 J2 B3 A4 => K .ret (I0 (D0 5 0x10) [.own 1]) [.obj [.int .i64 (r), .int .i64 (r1), .fz X1 (r2) false, .bool (r3), .fz D1 (r4) false, .bool (r5), .int .i64 (r6), .int .i64 (r7), .int .i64 o_, .int .i64 N1, .bool J2, .int .i64 B3], .row L2 A4]) | false => none) | false => none)
 | _, _ => none
def SU (fu : Nat) : Nat -> Option M1 := fun _ => none
theorem jC (fu : Nat) (R : Type) (K : Y2 -> R1 -> O0 -> Option R) (w7 : Bool) (r r1 : Int) (r2 : List (List D)) (r3 : Bool) (r4 : List (List D)) (r5 : Bool) (r6 r7 r8 r9 : Int) (r10 : Bool) (r11 : Int) :
  GZ fu w7 r r1 r2 r3 r4 r5 r6 r7 r8 r9 r10 r11 (fun o_ N1 J2 B3 A4 => K .ret (I0 (D0 5 0x10) [.own 1]) [.obj [.int .i64 (r), .int .i64 (r1), .fz X1 (r2) false, .bool (r3), .fz D1 (r4) false, .bool (r5), .int .i64 (r6), .int .i64 (r7), .int .i64 o_, .int .i64 N1, .bool J2, .int .i64 B3], .row L2 A4]) = n4 Try.prog (QE fu) 300 (SU fu) 511 (G3 (N0 m6 511)) (I0 (D0 6 0x21) [.ptr 0 0, .bool w7]) [.obj [.int .i64 r, .int .i64 r1, .fz X1 r2 false, .bool r3, .fz D1 r4 false, .bool r5, .int .i64 r6, .int .i64 r7, .int .i64 r8, .int .i64 r9, .bool r10, .int .i64 r11]] (UL 1 [.live (D0 5 0x10), .gc] K) := by kernel_rfl
theorem gu (fu : Nat) : R0 Try.prog 1 m6 (SU fu) := R0.none _ _ _
theorem gK (fu : Nat) : l4 Try.prog 1 (G3 (N0 m6 511)) (E8 (D0 6 0x21) (QH fu)) := by
 refine J5 (gout := [.live (D0 5 0x10), .gc]) (k := 300) (Ak fu) (gu fu) (by decide) XR (fun R e s K r h => ?_)
 unfold QH at h; split at h
 case h_2 => cases h
 iterate 2 (split at h; (case h_2 => cases h); rename_i hq; have hq := FT.J0 _ _ hq; subst hq)
 exact (jC fu R K _ _ _ _ _ _ _ _ _ _ _ _ _).symm.trans h
def DM {R : Type} (fu : Nat) (w7 : Bool) (r r1 : Int) (r2 : List (List D)) (r3 : Bool) (r4 : List (List D)) (r6 r7 r8 r9 : Int) (r10 : Bool) (r11 : Int) (k0 : Bool -> Int -> Int -> Int -> Bool -> Int -> (List (List D)) -> Option R) : Option R :=
 F22 fu [D.int r1, D.row r2, D.bool r3] r fun u3 => bif !decide (0 <= u3) then (k0 (decide (0 <= u3)) r6 r8 r9 r10 r11 []) else F24 fu r r1 r2 r3 r4 (decide (0 <= u3)) r6 r7 r8 r9 r10 r11 fun N1 => bif N1 then GZ fu w7 r r1 r2 r3 r4 (decide (0 <= u3)) (S1 r4.length) r7 r8 r9 r10 r11 fun J2 B3 A4 G5 Y5 => (k0 (decide (0 <= u3)) (S1 r4.length) J2 B3 A4 G5 Y5) else GZ fu w7 r r1 r2 r3 r4 (decide (0 <= u3)) r6 r7 r8 r9 r10 r11 fun B9 W8 R9 Q5 H5 => (k0 (decide (0 <= u3)) r6 B9 W8 R9 Q5 H5)
def Un (fu : Nat) : M1 := fun _ e s K => match e, s with
 | [.ptr 0 0, .bool w7], [.obj [.int .i64 r, .int .i64 r1, .fz U4 r2 false, .bool r3, .fz C6 r4 false, .bool r5, .int .i64 r6, .int .i64 r7, .int .i64 r8, .int .i64 r9, .bool r10, .int .i64 r11]] => (match FT.F0 U4 X1 with | true => (match FT.F0 C6 D1 with | true => DM fu w7 r r1 r2 r3 r4 r6 r7 r8 r9 r10 r11 (fun o_ N1 J2 B3 A4 G5 Y5 => K .ret (I0 (D0 5 0x10) [.own 1]) [.obj [.int .i64 (r), .int .i64 (r1), .fz X1 (r2) false, .bool (r3), .fz D1 (r4) false, .bool o_, .int .i64 N1, .int .i64 (r7), .int .i64 J2, .int .i64 B3, .bool A4, .int .i64 G5], .row L2 Y5]) | false => none) | false => none)
 | _, _ => none
def LQ (fu : Nat) : Nat -> Option M1 := fun p => match Nat.beq p 511 with | true => some (Ie 1 [.live (D0 6 0x21), .gc] (E8 (D0 6 0x21) (QH fu))) | false => none
theorem nC (fu : Nat) (R : Type) (K : Y2 -> R1 -> O0 -> Option R) (w7 : Bool) (r r1 : Int) (r2 : List (List D)) (r3 : Bool) (r4 : List (List D)) (r5 : Bool) (r6 r7 r8 r9 : Int) (r10 : Bool) (r11 : Int) :
  DM fu w7 r r1 r2 r3 r4 r6 r7 r8 r9 r10 r11 (fun o_ N1 J2 B3 A4 G5 Y5 => K .ret (I0 (D0 5 0x10) [.own 1]) [.obj [.int .i64 (r), .int .i64 (r1), .fz X1 (r2) false, .bool (r3), .fz D1 (r4) false, .bool o_, .int .i64 N1, .int .i64 (r7), .int .i64 J2, .int .i64 B3, .bool A4, .int .i64 G5], .row L2 Y5]) = n4 Try.prog (QE fu) 300 (LQ fu) 63 (G3 (N0 m6 63)) (I0 (D0 6 0x21) [.ptr 0 0, .bool w7]) [.obj [.int .i64 r, .int .i64 r1, .fz X1 r2 false, .bool r3, .fz D1 r4 false, .bool r5, .int .i64 r6, .int .i64 r7, .int .i64 r8, .int .i64 r9, .bool r10, .int .i64 r11]] (UL 1 [.live (D0 5 0x10), .j9 4 [] L2, .gc] K) := by kernel_rfl
theorem lB (fu : Nat) : R0 Try.prog 1 m6 (LQ fu) := fun p told h b hb => by
 replace h : LQ fu p = some told := h
 unfold LQ at h
 split at h
 ·rename_i hp
  cases h
  have := B6 hp
  subst this
  rw [XR] at hb
  cases hb
  exact C3 (gK fu)
 ·
  cases h
theorem kg (fu : Nat) : l4 Try.prog 1 (G3 (N0 m6 63)) (E8 (D0 6 0x21) (Un fu)) := by
 refine J5 (gout := [.live (D0 5 0x10), .j9 4 [] L2, .gc]) (k := 300) (Ak fu) (lB fu) (by decide) eN (fun R e s K r h => ?_)
 unfold Un at h; split at h
 case h_2 => cases h
 iterate 2 (split at h; (case h_2 => cases h); rename_i hq; have hq := FT.J0 _ _ hq; subst hq)
 exact (nC fu R K _ _ _ _ _ _ _ _ _ _ _ _ _).symm.trans h
def Hn {R : Type} (fu : Nat) (w7 : Bool) (r r1 : Int) (r2 : List (List D)) (r3 : Bool) (r4 : List (List D)) (r5 : Bool) (r6 r7 r8 r9 : Int) (r10 : Bool) (r11 c : Int) (c1 : List (List D)) (c2 : Bool) (k0 : Int -> (List (List D)) -> Bool -> (List (List D)) -> Bool -> Int -> Int -> Int -> Int -> Bool -> Int -> (List (List D)) -> Option R) : Option R :=
 bif decide (r1 < c) then F41 fu [D.int c, D.row c1, D.bool c2] fun u3 => F43 fu r (cell 0 u3).toInt (cell 1 u3).C0 (cell 2 u3).toBool r4 r5 r6 r7 r8 r9 r10 r11 fun N1 => bif N1 then Lj fu c2 r4 r6 r7 fun J2 B3 A4 => bif (cell 2 u3).toBool then DM fu w7 r (cell 0 u3).toInt (cell 1 u3).C0 c2 J2 B3 A4 r8 r9 r10 r11 fun G5 Y5 B9 W8 R9 Q5 H5 => (k0 ((cell 0 u3).toInt) ((cell 1 u3).C0) c2 J2 G5 Y5 A4 B9 W8 R9 Q5 H5) else DM fu w7 r (cell 0 u3).toInt (cell 1 u3).C0 false J2 B3 A4 r8 r9 r10 r11 fun I7 M6 q8 H7 o9 o4 M9 => (k0 ((cell 0 u3).toInt) ((cell 1 u3).C0) false J2 I7 M6 A4 q8 H7 o9 o4 M9) else Lj fu false r4 r6 r7 fun BS Bm Dd => bif (cell 2 u3).toBool then DM fu w7 r (cell 0 u3).toInt (cell 1 u3).C0 c2 BS Bm Dd r8 r9 r10 r11 fun FV HQ JK HP JJ NI NH => (k0 ((cell 0 u3).toInt) ((cell 1 u3).C0) c2 BS FV HQ Dd JK HP JJ NI NH) else DM fu w7 r (cell 0 u3).toInt (cell 1 u3).C0 false BS Bm Dd r8 r9 r10 r11 fun VJ JI Qh NG Qg Qf Qe => (k0 ((cell 0 u3).toInt) ((cell 1 u3).C0) false BS VJ JI Dd Qh NG Qg Qf Qe) else bif r3 then DM fu w7 r r1 r2 c2 r4 r6 r7 r8 r9 r10 r11 fun OU Qd Qc Qb Qa OT QZ => (k0 r1 r2 c2 r4 OU Qd r7 Qc Qb Qa OT QZ) else DM fu w7 r r1 r2 false r4 r6 r7 r8 r9 r10 r11 fun QY VI bX YY bW bV bU => (k0 r1 r2 false r4 QY VI r7 bX YY bW bV bU)
def Uo (fu : Nat) : M1 := fun _ e s K => match e, s with
 | [.ptr 0 0, .ptr 1 0, .bool w7], [.obj [.int .i64 r, .int .i64 r1, .fz U4 r2 false, .bool r3, .fz C6 r4 false, .bool r5, .int .i64 r6, .int .i64 r7, .int .i64 r8, .int .i64 r9, .bool r10, .int .i64 r11], .obj [.int .i64 c, .fz Ag c1 false, .bool c2]] => (match FT.F0 U4 X1 with | true => (match FT.F0 C6 D1 with | true => (match FT.F0 Ag X1 with | true => Hn fu w7 r r1 r2 r3 r4 r5 r6 r7 r8 r9 r10 r11 c c1 c2 (fun o_ N1 J2 B3 A4 G5 Y5 B9 W8 R9 Q5 H5 => K .ret (I0 (D0 5 0x10) [.own 1]) [.obj [.int .i64 (r), .int .i64 o_, .fz X1 N1 false, .bool J2, .fz D1 B3 false, .bool A4, .int .i64 G5, .int .i64 Y5, .int .i64 B9, .int .i64 W8, .bool R9, .int .i64 Q5], .row L2 H5]) | false => none) | false => none) | false => none)
 | _, _ => none
def LR (fu : Nat) : Nat -> Option M1 := fun p => match Nat.beq p 491 with | true => some (Ie 1 [.live (D0 47 0x400000000029), .gc, .S3 1 1 X1, .gc] (E8 (D0 47 0x400000000029) (QI fu))) | false => match Nat.beq p 63 with | true => some (Ie 1 [.live (D0 6 0x21), .gc] (E8 (D0 6 0x21) (Un fu))) | false => none
theorem nD (fu : Nat) (R : Type) (K : Y2 -> R1 -> O0 -> Option R) (w7 : Bool) (r r1 : Int) (r2 : List (List D)) (r3 : Bool) (r4 : List (List D)) (r5 : Bool) (r6 r7 r8 r9 : Int) (r10 : Bool) (r11 c : Int) (c1 : List (List D)) (c2 : Bool) :
  Hn fu w7 r r1 r2 r3 r4 r5 r6 r7 r8 r9 r10 r11 c c1 c2 (fun o_ N1 J2 B3 A4 G5 Y5 B9 W8 R9 Q5 H5 => K .ret (I0 (D0 5 0x10) [.own 1]) [.obj [.int .i64 (r), .int .i64 o_, .fz X1 N1 false, .bool J2, .fz D1 B3 false, .bool A4, .int .i64 G5, .int .i64 Y5, .int .i64 B9, .int .i64 W8, .bool R9, .int .i64 Q5], .row L2 H5]) = n4 Try.prog (QE fu) 300 (LR fu) 15 (G3 (N0 m6 15)) (I0 (D0 6 0x29) [.ptr 0 0, .ptr 1 0, .bool w7]) [.obj [.int .i64 r, .int .i64 r1, .fz X1 r2 false, .bool r3, .fz D1 r4 false, .bool r5, .int .i64 r6, .int .i64 r7, .int .i64 r8, .int .i64 r9, .bool r10, .int .i64 r11], .obj [.int .i64 c, .fz X1 c1 false, .bool c2]] (UL 1 [.live (D0 5 0x10), .gc] K) := by kernel_rfl
theorem lC (fu : Nat) : R0 Try.prog 1 m6 (LR fu) := fun p told h b hb => by
 replace h : LR fu p = some told := h
 unfold LR at h
 split at h
 ·rename_i hp
  cases h
  have := B6 hp
  subst this
  rw [XS] at hb
  cases hb
  exact C3 (gL fu)
 ·
  split at h
  ·rename_i hp
   cases h
   have := B6 hp
   subst this
   rw [eN] at hb
   cases hb
   exact C3 (kg fu)
  ·
   cases h
theorem kh (fu : Nat) : l4 Try.prog 1 (G3 (N0 m6 15)) (E8 (D0 6 0x29) (Uo fu)) := by
 refine J5 (gout := [.live (D0 5 0x10), .gc]) (k := 300) (Ak fu) (lC fu) (by decide) eO (fun R e s K r h => ?_)
 unfold Uo at h; split at h
 case h_2 => cases h
 iterate 3 (split at h; (case h_2 => cases h); rename_i hq; have hq := FT.J0 _ _ hq; subst hq)
 exact (nD fu R K _ _ _ _ _ _ _ _ _ _ _ _ _ _ _ _).symm.trans h
def nj {R : Type} (fu : Nat) (c : List D) (AL AC : Int) (AA : List (List D)) (AB : Bool) (AK : List (List D)) (AI : Bool) (AD AJ AE AG : Int) (AF : Bool) (AH : Int) (k0 : Int -> (List (List D)) -> Bool -> (List (List D)) -> Bool -> Int -> Int -> Int -> Int -> Bool -> Int -> (List (List D)) -> Option R) : Option R :=
 bif decide ((cell 0 c).toInt < AC) then (k0 AC AA AB AK AI AD AJ AE AG AF AH []) else bif AI then Hn fu (decide ((cell 0 c).toInt = AC)) AL AC AA AB AK AI AD AJ AE AG AF AH (cell 0 c).toInt (cell 1 c).C0 (cell 2 c).toBool fun u3 N1 J2 B3 A4 G5 Y5 B9 W8 R9 Q5 H5 => (k0 u3 N1 J2 B3 A4 G5 Y5 B9 W8 R9 Q5 H5) else Hn fu false AL AC AA AB AK AI AD AJ AE AG AF AH (cell 0 c).toInt (cell 1 c).C0 (cell 2 c).toBool fun I7 M6 q8 H7 o9 o4 M9 BS Bm Dd FV HQ => (k0 I7 M6 q8 H7 o9 o4 M9 BS Bm Dd FV HQ)
def F32 {R : Type} := shut (@nj R)
theorem fE {R : Type} (fu : Nat) (c : List D) (AL AC : Int) (AA : List (List D)) (AB : Bool) (AK : List (List D)) (AI : Bool) (AD AJ AE AG : Int) (AF : Bool) (AH : Int) (k0 : Int -> (List (List D)) -> Bool -> (List (List D)) -> Bool -> Int -> Int -> Int -> Int -> Bool -> Int -> (List (List D)) -> Option R) : F32 fu c AL AC AA AB AK AI AD AJ AE AG AF AH k0 = nj fu c AL AC AA AB AK AI AD AJ AE AG AF AH k0 := by unfold F32; rw [O2]
def ga (fu : Nat) : Nat -> Option M1 := fun p => match Nat.beq p 15 with | true => some (Ie 1 [.live (D0 6 0x29), .gc, .S3 1 1 X1, .gc] (E8 (D0 6 0x29) (Uo fu))) | false => none
def t32 (fu : Nat) : J1 := fun _ args s K => match args, s with
 | [.ptr 0 0, .agg [.int .i64 q, .fz U4 q1 false, .bool q2]], [.obj [.int .i64 AL, .int .i64 AC, .fz C6 AA false, .bool AB, .fz Ag AK false, .bool AI, .int .i64 AD, .int .i64 AJ, .int .i64 AE, .int .i64 AG, .bool AF, .int .i64 AH]] => (match FT.F0 U4 X1 with | true => (match FT.F0 C6 X1 with | true => (match FT.F0 Ag D1 with | true => F32 fu [D.int q, D.row q1, D.bool q2] AL AC AA AB AK AI AD AJ AE AG AF AH (fun o_ N1 J2 B3 A4 G5 Y5 B9 W8 R9 Q5 H5 => K (.own 1) [.obj [.int .i64 (AL), .int .i64 o_, .fz X1 N1 false, .bool J2, .fz D1 B3 false, .bool A4, .int .i64 G5, .int .i64 Y5, .int .i64 B9, .int .i64 W8, .bool R9, .int .i64 Q5], .row L2 H5]) | false => none) | false => none) | false => none)
 | _, _ => none
theorem e32 (R : Type) (K : UV -> O0 -> Option R) (fu : Nat) (q : Int) (q1 : List (List D)) (q2 : Bool) (AL AC : Int) (AA : List (List D)) (AB : Bool) (AK : List (List D)) (AI : Bool) (AD AJ AE AG : Int) (AF : Bool) (AH : Int) :
  F32 fu [D.int q, D.row q1, D.bool q2] AL AC AA AB AK AI AD AJ AE AG AF AH (fun o_ N1 J2 B3 A4 G5 Y5 B9 W8 R9 Q5 H5 => K (.own 1) [.obj [.int .i64 (AL), .int .i64 o_, .fz X1 N1 false, .bool J2, .fz D1 B3 false, .bool A4, .int .i64 G5, .int .i64 Y5, .int .i64 B9, .int .i64 W8, .bool R9, .int .i64 Q5], .row L2 H5]) = I6 Try.prog ⟨(QE fu), ga fu⟩ 300 32 [.ptr 0 0, .agg [.int .i64 q, .fz X1 q1 false, .bool q2]] [.obj [.int .i64 AL, .int .i64 AC, .fz X1 AA false, .bool AB, .fz D1 AK false, .bool AI, .int .i64 AD, .int .i64 AJ, .int .i64 AE, .int .i64 AG, .bool AF, .int .i64 AH]] (W6 1 [.j9 0 [] L2, .gc, .S3 0 2 X1, .S3 0 4 D1, .gc] K) := (fE fu _ _ _ _ _ _ _ _ _ _ _ _ _ _).trans (by kernel_rfl)
theorem s32 (fu : Nat) : N3 Try.prog 32 (t32 fu) := by
 refine y0 (T := ⟨(QE fu), ga fu⟩) (m := 1) (gout := [.j9 0 [] L2, .gc, .S3 0 2 X1, .S3 0 4 D1, .gc]) (k := 300) (Ak fu) (fun fn body hf hb => ?_) (fun R args s K r h => ?_) (fun R args s K r h => ?_)
 ·have hc : body = m6 := by
   have h1 : Try.prog.funcs[32]? = some Try.f32 := rfl
   rw [h1] at hf; cases hf
   have h2 : Try.f32.body = some m6 := rfl
   rw [h2] at hb; cases hb; rfl
  subst hc
  exact fun p told h b hb => by
   replace h : ga fu p = some told := h
   unfold ga at h
   split at h
   ·rename_i hp
    cases h
    have := B6 hp
    subst this
    rw [eO] at hb
    cases hb
    exact C3 (kh fu)
   ·
    cases h

 ·unfold t32 at h; split at h
  ·rfl
  ·cases h
 ·unfold t32 at h; split at h
  case h_2 => cases h
  iterate 3 (split at h; (case h_2 => cases h); rename_i hq; have hq := FT.J0 _ _ hq; subst hq)
  exact (e32 R K fu _ _ _ _ _ _ _ _ _ _ _ _ _ _ _).symm.trans h
def aN (fu : Nat) : FuncId -> Option (Bool × J1) := fun f => match Nat.beq f 32 with
 | true => some (false, OS (CA [.V9 1 [1] X1, .gc, .S3 0 2 X1, .S3 0 4 D1, .gc] (t32 fu)))
 | false => (QE fu) f
theorem MP (fu : Nat) : C2 Try.prog (aN fu) := by
 intro f own told h
 unfold aN at h
 split at h
 ·rename_i hb
  cases h
  have := B6 hb
  subst this
  exact M4 (O1 (s32 fu))
 ·exact (Ak fu) f own told h
end Go.Proofs.Ythlbahcggmbfaaa.V
end
noncomputable section
namespace Go.Proofs.Ythlbahcggmbfaaa.V
set_option maxRecDepth 100000
set_option maxHeartbeats 4000000
def dO : Code := match Try.f47.body with | some c => c | none => .skip
def nW {R : Type} (fu : Nat) (cmd : ByteArray) (AL AC : Int) (AA : List (List D)) (AB : Bool) (AK : List (List D)) (AI : Bool) (AD AJ AE AG : Int) (AF : Bool) (AH : Int) (k0 : (List (List D)) -> Int -> (List (List D)) -> Option R) : Option R :=
 bif decide (S1 AK.length = 0) && decide (S1 AK.length = 0) then F24 fu AL AC AA AB [[D.str cmd]] AI AD AJ AE AG AF AH fun u3 => bif u3 then (k0 ([[D.str cmd]]) 1 []) else F48 fu 0 true AL AC AA AB [[D.str cmd]] AI AD AJ AE AG AF AH fun N1 => (k0 ([[D.str cmd]]) AD N1) else bif decide ((0 : Int) <= 0 /\ 0 <= S1 AK.length) && H9 (S1 AK.length) AK.length && decide (S1 AK.length = S1 AK.length) then bif fits ((part AK 0 (S1 AK.length).toNat).length + 1) 16 then F24 fu AL AC AA AB (part AK 0 (S1 AK.length).toNat ++ [[D.str cmd]]) AI AD AJ AE AG AF AH fun J2 => bif J2 then (k0 (part AK 0 (S1 AK.length).toNat ++ [[D.str cmd]]) (S1 (part AK 0 (S1 AK.length).toNat ++ [[D.str cmd]]).length) []) else F48 fu (IntKind.i64.wrap (S1 (part AK 0 (S1 AK.length).toNat ++ [[D.str cmd]]).length - 1)) true AL AC AA AB (part AK 0 (S1 AK.length).toNat ++ [[D.str cmd]]) AI AD AJ AE AG AF AH fun B3 => (k0 (part AK 0 (S1 AK.length).toNat ++ [[D.str cmd]]) AD B3) else none else none
def F47 {R : Type} := shut (@nW R)
theorem ej {R : Type} (fu : Nat) (cmd : ByteArray) (AL AC : Int) (AA : List (List D)) (AB : Bool) (AK : List (List D)) (AI : Bool) (AD AJ AE AG : Int) (AF : Bool) (AH : Int) (k0 : (List (List D)) -> Int -> (List (List D)) -> Option R) : F47 fu cmd AL AC AA AB AK AI AD AJ AE AG AF AH k0 = nW fu cmd AL AC AA AB AK AI AD AJ AE AG AF AH k0 := by unfold F47; rw [O2]
def pV (fu : Nat) : Nat -> Option M1 := fun _ => none
def t47 (fu : Nat) : J1 := fun _ args s K => match args, s with
 | [.ptr 0 0, .str cmd], [.obj [.int .i64 AL, .int .i64 AC, .fz U4 AA false, .bool AB, .fz C6 AK false, .bool AI, .int .i64 AD, .int .i64 AJ, .int .i64 AE, .int .i64 AG, .bool AF, .int .i64 AH]] => (match FT.F0 U4 X1 with | true => (match FT.F0 C6 D1 with | true => F47 fu cmd AL AC AA AB AK AI AD AJ AE AG AF AH (fun o_ N1 J2 => K (.own 1) [.obj [.int .i64 (AL), .int .i64 (AC), .fz X1 (AA) false, .bool (AB), .fz D1 o_ false, .bool (AI), .int .i64 N1, .int .i64 (AJ), .int .i64 (AE), .int .i64 (AG), .bool (AF), .int .i64 (AH)], .row L2 J2]) | false => none) | false => none)
 | _, _ => none
theorem e47 (R : Type) (K : UV -> O0 -> Option R) (fu : Nat) (cmd : ByteArray) (AL AC : Int) (AA : List (List D)) (AB : Bool) (AK : List (List D)) (AI : Bool) (AD AJ AE AG : Int) (AF : Bool) (AH : Int) :
  F47 fu cmd AL AC AA AB AK AI AD AJ AE AG AF AH (fun o_ N1 J2 => K (.own 1) [.obj [.int .i64 (AL), .int .i64 (AC), .fz X1 (AA) false, .bool (AB), .fz D1 o_ false, .bool (AI), .int .i64 N1, .int .i64 (AJ), .int .i64 (AE), .int .i64 (AG), .bool (AF), .int .i64 (AH)], .row L2 J2]) = I6 Try.prog ⟨(aN fu), pV fu⟩ 300 47 [.ptr 0 0, .str cmd] [.obj [.int .i64 AL, .int .i64 AC, .fz X1 AA false, .bool AB, .fz D1 AK false, .bool AI, .int .i64 AD, .int .i64 AJ, .int .i64 AE, .int .i64 AG, .bool AF, .int .i64 AH]] (W6 1 [.j9 0 [] L2, .gc, .S3 0 2 X1, .S3 0 4 D1, .gc] K) := (ej fu _ _ _ _ _ _ _ _ _ _ _ _ _ _).trans (by kernel_rfl)
theorem s47 (fu : Nat) : N3 Try.prog 47 (t47 fu) := by
 refine y0 (T := ⟨(aN fu), pV fu⟩) (m := 1) (gout := [.j9 0 [] L2, .gc, .S3 0 2 X1, .S3 0 4 D1, .gc]) (k := 300) (MP fu) (fun fn body hf hb => ?_) (fun R args s K r h => ?_) (fun R args s K r h => ?_)
 ·have hc : body = dO := by
   have h1 : Try.prog.funcs[47]? = some Try.f47 := rfl
   rw [h1] at hf; cases hf
   have h2 : Try.f47.body = some dO := rfl
   rw [h2] at hb; cases hb; rfl
  subst hc
  exact R0.none _ _ _
 ·unfold t47 at h; split at h
  ·rfl
  ·cases h
 ·unfold t47 at h; split at h
  case h_2 => cases h
  iterate 2 (split at h; (case h_2 => cases h); rename_i hq; have hq := FT.J0 _ _ hq; subst hq)
  exact (e47 R K fu _ _ _ _ _ _ _ _ _ _ _ _ _).symm.trans h
def aE (fu : Nat) : FuncId -> Option (Bool × J1) := fun f => match Nat.beq f 47 with
 | true => some (false, OS (CA [.gc, .S3 0 2 X1, .S3 0 4 D1, .gc] (t47 fu)))
 | false => (aN fu) f
theorem MG (fu : Nat) : C2 Try.prog (aE fu) := by
 intro f own told h
 unfold aE at h
 split at h
 ·rename_i hb
  cases h
  have := B6 hb
  subst this
  exact M4 (O1 (s47 fu))
 ·exact (MP fu) f own told h
end Go.Proofs.Ythlbahcggmbfaaa.V
end
noncomputable section
namespace Go.Proofs.Ythlbahcggmbfaaa.V
set_option maxRecDepth 100000
set_option maxHeartbeats 4000000
def dY : Code := match Try.f30.body with | some c => c | none => .skip
def np {R : Type} (fu : Nat) (cmd : ByteArray) (AL AC : Int) (AA : List (List D)) (AB : Bool) (AK : List (List D)) (AI : Bool) (AD AJ AE AG : Int) (AF : Bool) (AH : Int) (k0 : Int -> Int -> (List (List D)) -> Int -> (List (List D)) -> Option R) : Option R :=
 F23 fu AL AC AA AB AK AI AD AJ AE AG AF AH fun u3 => bif !u3 then (k0 0 10 AK AD []) else F47 fu cmd AL AC AA AB AK AI AD AJ AE AG AF AH fun N1 J2 B3 => (k0 (S1 N1.length) 0 N1 J2 B3)
def F30 {R : Type} := shut (@np R)
theorem fG {R : Type} (fu : Nat) (cmd : ByteArray) (AL AC : Int) (AA : List (List D)) (AB : Bool) (AK : List (List D)) (AI : Bool) (AD AJ AE AG : Int) (AF : Bool) (AH : Int) (k0 : Int -> Int -> (List (List D)) -> Int -> (List (List D)) -> Option R) : F30 fu cmd AL AC AA AB AK AI AD AJ AE AG AF AH k0 = np fu cmd AL AC AA AB AK AI AD AJ AE AG AF AH k0 := by unfold F30; rw [O2]
def pg (fu : Nat) : Nat -> Option M1 := fun _ => none
def t30 (fu : Nat) : J1 := fun _ args s K => match args, s with
 | [.ptr 0 0, .str cmd], [.obj [.int .i64 AL, .int .i64 AC, .fz U4 AA false, .bool AB, .fz C6 AK false, .bool AI, .int .i64 AD, .int .i64 AJ, .int .i64 AE, .int .i64 AG, .bool AF, .int .i64 AH]] => (match FT.F0 U4 X1 with | true => (match FT.F0 C6 D1 with | true => F30 fu cmd AL AC AA AB AK AI AD AJ AE AG AF AH (fun o_ N1 J2 B3 A4 => K (.tuple [.int .i64 o_, .own 1, .int .i64 N1]) [.obj [.int .i64 (AL), .int .i64 (AC), .fz X1 (AA) false, .bool (AB), .fz D1 J2 false, .bool (AI), .int .i64 B3, .int .i64 (AJ), .int .i64 (AE), .int .i64 (AG), .bool (AF), .int .i64 (AH)], .row L2 A4]) | false => none) | false => none)
 | _, _ => none
theorem e30 (R : Type) (K : UV -> O0 -> Option R) (fu : Nat) (cmd : ByteArray) (AL AC : Int) (AA : List (List D)) (AB : Bool) (AK : List (List D)) (AI : Bool) (AD AJ AE AG : Int) (AF : Bool) (AH : Int) :
  F30 fu cmd AL AC AA AB AK AI AD AJ AE AG AF AH (fun o_ N1 J2 B3 A4 => K (.tuple [.int .i64 o_, .own 1, .int .i64 N1]) [.obj [.int .i64 (AL), .int .i64 (AC), .fz X1 (AA) false, .bool (AB), .fz D1 J2 false, .bool (AI), .int .i64 B3, .int .i64 (AJ), .int .i64 (AE), .int .i64 (AG), .bool (AF), .int .i64 (AH)], .row L2 A4]) = I6 Try.prog ⟨(aE fu), pg fu⟩ 300 30 [.ptr 0 0, .str cmd] [.obj [.int .i64 AL, .int .i64 AC, .fz X1 AA false, .bool AB, .fz D1 AK false, .bool AI, .int .i64 AD, .int .i64 AJ, .int .i64 AE, .int .i64 AG, .bool AF, .int .i64 AH]] (W6 1 [.j9 0 [1] L2, .gc, .S3 0 2 X1, .S3 0 4 D1, .gc] K) := (fG fu _ _ _ _ _ _ _ _ _ _ _ _ _ _).trans (by kernel_rfl)
theorem s30 (fu : Nat) : N3 Try.prog 30 (t30 fu) := by
 refine y0 (T := ⟨(aE fu), pg fu⟩) (m := 1) (gout := [.j9 0 [1] L2, .gc, .S3 0 2 X1, .S3 0 4 D1, .gc]) (k := 300) (MG fu) (fun fn body hf hb => ?_) (fun R args s K r h => ?_) (fun R args s K r h => ?_)
 ·have hc : body = dY := by
   have h1 : Try.prog.funcs[30]? = some Try.f30 := rfl
   rw [h1] at hf; cases hf
   have h2 : Try.f30.body = some dY := rfl
   rw [h2] at hb; cases hb; rfl
  subst hc
  exact R0.none _ _ _
 ·unfold t30 at h; split at h
  ·rfl
  ·cases h
 ·unfold t30 at h; split at h
  case h_2 => cases h
  iterate 2 (split at h; (case h_2 => cases h); rename_i hq; have hq := FT.J0 _ _ hq; subst hq)
  exact (e30 R K fu _ _ _ _ _ _ _ _ _ _ _ _ _).symm.trans h
def aO (fu : Nat) : FuncId -> Option (Bool × J1) := fun f => match Nat.beq f 30 with
 | true => some (false, OS (CA [.gc, .S3 0 2 X1, .S3 0 4 D1, .gc] (t30 fu)))
 | false => (aE fu) f
theorem MQ (fu : Nat) : C2 Try.prog (aO fu) := by
 intro f own told h
 unfold aO at h
 split at h
 ·rename_i hb
  cases h
  have := B6 hb
  subst this
  exact M4 (O1 (s30 fu))
 ·exact (MG fu) f own told h
end Go.Proofs.Ythlbahcggmbfaaa.V
end
noncomputable section
namespace Go.Proofs.Ythlbahcggmbfaaa.V
set_option maxRecDepth 100000
set_option maxHeartbeats 4000000
def dL : Code := match Try.f55.body with | some c => c | none => .skip
def nT {R : Type} (fu : Nat) (AL AC : Int) (AA : List (List D)) (AB : Bool) (AK : List (List D)) (AI : Bool) (AD AJ AE AG : Int) (AF : Bool) (AH : Int) (k0 : (List (List D)) -> Option R) : Option R :=
 F25 fu [D.int AC, D.row AA, D.bool AB] AL fun u3 => bif decide (u3 < 0) then (k0 []) else (k0 ([[D.int 1, D.int AL, D.int u3, D.int AC, D.int AD, D.int 0, D.bool false, D.str (ByteArray.mk #[])]]))
def F55 {R : Type} := shut (@nT R)
theorem ef {R : Type} (fu : Nat) (AL AC : Int) (AA : List (List D)) (AB : Bool) (AK : List (List D)) (AI : Bool) (AD AJ AE AG : Int) (AF : Bool) (AH : Int) (k0 : (List (List D)) -> Option R) : F55 fu AL AC AA AB AK AI AD AJ AE AG AF AH k0 = nT fu AL AC AA AB AK AI AD AJ AE AG AF AH k0 := by unfold F55; rw [O2]
def pS (fu : Nat) : Nat -> Option M1 := fun _ => none
def t55 (fu : Nat) : J1 := fun _ args s K => match args, s with
 | [.ptr 0 0], [.obj [.int .i64 AL, .int .i64 AC, .fz U4 AA false, .bool AB, .fz C6 AK false, .bool AI, .int .i64 AD, .int .i64 AJ, .int .i64 AE, .int .i64 AG, .bool AF, .int .i64 AH]] => (match FT.F0 U4 X1 with | true => (match FT.F0 C6 D1 with | true => F55 fu AL AC AA AB AK AI AD AJ AE AG AF AH (fun o_ => K (.own 1) [.obj [.int .i64 (AL), .int .i64 (AC), .fz X1 (AA) false, .bool (AB), .fz D1 (AK) false, .bool (AI), .int .i64 (AD), .int .i64 (AJ), .int .i64 (AE), .int .i64 (AG), .bool (AF), .int .i64 (AH)], .row L2 o_]) | false => none) | false => none)
 | _, _ => none
theorem e55 (R : Type) (K : UV -> O0 -> Option R) (fu : Nat) (AL AC : Int) (AA : List (List D)) (AB : Bool) (AK : List (List D)) (AI : Bool) (AD AJ AE AG : Int) (AF : Bool) (AH : Int) :
  F55 fu AL AC AA AB AK AI AD AJ AE AG AF AH (fun o_ => K (.own 1) [.obj [.int .i64 (AL), .int .i64 (AC), .fz X1 (AA) false, .bool (AB), .fz D1 (AK) false, .bool (AI), .int .i64 (AD), .int .i64 (AJ), .int .i64 (AE), .int .i64 (AG), .bool (AF), .int .i64 (AH)], .row L2 o_]) = I6 Try.prog ⟨(aO fu), pS fu⟩ 300 55 [.ptr 0 0] [.obj [.int .i64 AL, .int .i64 AC, .fz X1 AA false, .bool AB, .fz D1 AK false, .bool AI, .int .i64 AD, .int .i64 AJ, .int .i64 AE, .int .i64 AG, .bool AF, .int .i64 AH]] (W6 1 [.j9 0 [] L2, .gc, .S3 0 2 X1, .S3 0 4 D1, .gc] K) := (ef fu _ _ _ _ _ _ _ _ _ _ _ _ _).trans (by kernel_rfl)
theorem s55 (fu : Nat) : N3 Try.prog 55 (t55 fu) := by
 refine y0 (T := ⟨(aO fu), pS fu⟩) (m := 1) (gout := [.j9 0 [] L2, .gc, .S3 0 2 X1, .S3 0 4 D1, .gc]) (k := 300) (MQ fu) (fun fn body hf hb => ?_) (fun R args s K r h => ?_) (fun R args s K r h => ?_)
 ·have hc : body = dL := by
   have h1 : Try.prog.funcs[55]? = some Try.f55 := rfl
   rw [h1] at hf; cases hf
   have h2 : Try.f55.body = some dL := rfl
   rw [h2] at hb; cases hb; rfl
  subst hc
  exact R0.none _ _ _
 ·unfold t55 at h; split at h
  ·rfl
  ·cases h
 ·unfold t55 at h; split at h
  case h_2 => cases h
  iterate 2 (split at h; (case h_2 => cases h); rename_i hq; have hq := FT.J0 _ _ hq; subst hq)
  exact (e55 R K fu _ _ _ _ _ _ _ _ _ _ _ _).symm.trans h
def aC (fu : Nat) : FuncId -> Option (Bool × J1) := fun f => match Nat.beq f 55 with
 | true => some (false, OS (CA [.gc, .S3 0 2 X1, .S3 0 4 D1, .gc] (t55 fu)))
 | false => (aO fu) f
theorem MD (fu : Nat) : C2 Try.prog (aC fu) := by
 intro f own told h
 unfold aC at h
 split at h
 ·rename_i hb
  cases h
  have := B6 hb
  subst this
  exact M4 (O1 (s55 fu))
 ·exact (MQ fu) f own told h
end Go.Proofs.Ythlbahcggmbfaaa.V
end
noncomputable section
namespace Go.Proofs.Ythlbahcggmbfaaa.V
set_option maxRecDepth 100000
set_option maxHeartbeats 4000000
def dQ : Code := match Try.f45.body with | some c => c | none => .skip
def nY {R : Type} (fu : Nat) (m : List D) (AL AC : Int) (AA : List (List D)) (AB : Bool) (AK : List (List D)) (AI : Bool) (AD AJ AE AG : Int) (AF : Bool) (AH : Int) (k0 : (List (List D)) -> Int -> Int -> (List (List D)) -> Option R) : Option R :=
 bif (cell 6 m).toBool then bif decide ((cell 4 m).toInt = S1 AK.length) then F47 fu (cell 7 m).toStr AL AC AA AB AK AI AD AJ AE AG true (if (cell 5 m).toInt > AH then (cell 5 m).toInt else AH) fun u3 N1 J2 => F55 fu AL AC AA AB u3 AI N1 AJ AE AG true (if (cell 5 m).toInt > AH then (cell 5 m).toInt else AH) fun B3 => bif fits (J2.length + B3.length) 72 then (k0 u3 N1 (if (cell 5 m).toInt > AH then (cell 5 m).toInt else AH) (J2 ++ B3)) else none else F55 fu AL AC AA AB AK AI AD AJ AE AG true (if (cell 5 m).toInt > AH then (cell 5 m).toInt else AH) fun A4 => bif fits A4.length 72 then (k0 AK AD (if (cell 5 m).toInt > AH then (cell 5 m).toInt else AH) A4) else none else F55 fu AL AC AA AB AK AI AD AJ AE AG true (if (cell 5 m).toInt > AH then (cell 5 m).toInt else AH) fun G5 => bif fits G5.length 72 then (k0 AK AD (if (cell 5 m).toInt > AH then (cell 5 m).toInt else AH) G5) else none
def F45 {R : Type} := shut (@nY R)
theorem er {R : Type} (fu : Nat) (m : List D) (AL AC : Int) (AA : List (List D)) (AB : Bool) (AK : List (List D)) (AI : Bool) (AD AJ AE AG : Int) (AF : Bool) (AH : Int) (k0 : (List (List D)) -> Int -> Int -> (List (List D)) -> Option R) : F45 fu m AL AC AA AB AK AI AD AJ AE AG AF AH k0 = nY fu m AL AC AA AB AK AI AD AJ AE AG AF AH k0 := by unfold F45; rw [O2]
def pX (fu : Nat) : Nat -> Option M1 := fun _ => none
def t45 (fu : Nat) : J1 := fun _ args s K => match args, s with
 | [.ptr 0 0, .agg [.int .i64 q, .int .i64 q1, .int .i64 q2, .int .i64 q3, .int .i64 q4, .int .i64 q5, .bool q6, .str q7]], [.obj [.int .i64 AL, .int .i64 AC, .fz U4 AA false, .bool AB, .fz C6 AK false, .bool AI, .int .i64 AD, .int .i64 AJ, .int .i64 AE, .int .i64 AG, .bool AF, .int .i64 AH]] => (match FT.F0 U4 X1 with | true => (match FT.F0 C6 D1 with | true => F45 fu [D.int q, D.int q1, D.int q2, D.int q3, D.int q4, D.int q5, D.bool q6, D.str q7] AL AC AA AB AK AI AD AJ AE AG AF AH (fun o_ N1 J2 B3 => K (.own 1) [.obj [.int .i64 (AL), .int .i64 (AC), .fz X1 (AA) false, .bool (AB), .fz D1 o_ false, .bool (AI), .int .i64 N1, .int .i64 (AJ), .int .i64 (AE), .int .i64 (AG), .bool (true), .int .i64 J2], .row L2 B3]) | false => none) | false => none)
 | _, _ => none
theorem e45 (R : Type) (K : UV -> O0 -> Option R) (fu : Nat) (q q1 q2 q3 q4 q5 : Int) (q6 : Bool) (q7 : ByteArray) (AL AC : Int) (AA : List (List D)) (AB : Bool) (AK : List (List D)) (AI : Bool) (AD AJ AE AG : Int) (AF : Bool) (AH : Int) :
  F45 fu [D.int q, D.int q1, D.int q2, D.int q3, D.int q4, D.int q5, D.bool q6, D.str q7] AL AC AA AB AK AI AD AJ AE AG AF AH (fun o_ N1 J2 B3 => K (.own 1) [.obj [.int .i64 (AL), .int .i64 (AC), .fz X1 (AA) false, .bool (AB), .fz D1 o_ false, .bool (AI), .int .i64 N1, .int .i64 (AJ), .int .i64 (AE), .int .i64 (AG), .bool (true), .int .i64 J2], .row L2 B3]) = I6 Try.prog ⟨(aC fu), pX fu⟩ 300 45 [.ptr 0 0, .agg [.int .i64 q, .int .i64 q1, .int .i64 q2, .int .i64 q3, .int .i64 q4, .int .i64 q5, .bool q6, .str q7]] [.obj [.int .i64 AL, .int .i64 AC, .fz X1 AA false, .bool AB, .fz D1 AK false, .bool AI, .int .i64 AD, .int .i64 AJ, .int .i64 AE, .int .i64 AG, .bool AF, .int .i64 AH]] (W6 1 [.gc, .S3 0 2 X1, .S3 0 4 D1, .gc] K) := (er fu _ _ _ _ _ _ _ _ _ _ _ _ _ _).trans (by kernel_rfl)
theorem s45 (fu : Nat) : N3 Try.prog 45 (t45 fu) := by
 refine y0 (T := ⟨(aC fu), pX fu⟩) (m := 1) (gout := [.gc, .S3 0 2 X1, .S3 0 4 D1, .gc]) (k := 300) (MD fu) (fun fn body hf hb => ?_) (fun R args s K r h => ?_) (fun R args s K r h => ?_)
 ·have hc : body = dQ := by
   have h1 : Try.prog.funcs[45]? = some Try.f45 := rfl
   rw [h1] at hf; cases hf
   have h2 : Try.f45.body = some dQ := rfl
   rw [h2] at hb; cases hb; rfl
  subst hc
  exact R0.none _ _ _
 ·unfold t45 at h; split at h
  ·rfl
  ·cases h
 ·unfold t45 at h; split at h
  case h_2 => cases h
  iterate 2 (split at h; (case h_2 => cases h); rename_i hq; have hq := FT.J0 _ _ hq; subst hq)
  exact (e45 R K fu _ _ _ _ _ _ _ _ _ _ _ _ _ _ _ _ _ _ _ _).symm.trans h
def aG (fu : Nat) : FuncId -> Option (Bool × J1) := fun f => match Nat.beq f 45 with
 | true => some (false, OS (CA [.gc, .S3 0 2 X1, .S3 0 4 D1, .gc] (t45 fu)))
 | false => (aC fu) f
theorem MI (fu : Nat) : C2 Try.prog (aG fu) := by
 intro f own told h
 unfold aG at h
 split at h
 ·rename_i hb
  cases h
  have := B6 hb
  subst this
  exact M4 (O1 (s45 fu))
 ·exact (MD fu) f own told h
end Go.Proofs.Ythlbahcggmbfaaa.V
end
noncomputable section
namespace Go.Proofs.Ythlbahcggmbfaaa.V
set_option maxRecDepth 100000
set_option maxHeartbeats 4000000
def dP : Code := match Try.f46.body with | some c => c | none => .skip
def nX {R : Type} (fu : Nat) (m : List D) (AL AC : Int) (AA : List (List D)) (AB : Bool) (AK : List (List D)) (AI : Bool) (AD AJ AE AG : Int) (AF : Bool) (AH : Int) (k0 : Int -> Int -> (List (List D)) -> Option R) : Option R :=
 bif decide ((if (if S1 AK.length < (cell 4 m).toInt then S1 AK.length else (cell 4 m).toInt) > AE then if S1 AK.length < (cell 4 m).toInt then S1 AK.length else (cell 4 m).toInt else AE) <= AD) then (k0 AD (if (if S1 AK.length < (cell 4 m).toInt then S1 AK.length else (cell 4 m).toInt) > AE then if S1 AK.length < (cell 4 m).toInt then S1 AK.length else (cell 4 m).toInt else AE) []) else F55 fu AL AC AA AB AK AI (if (if S1 AK.length < (cell 4 m).toInt then S1 AK.length else (cell 4 m).toInt) > AE then if S1 AK.length < (cell 4 m).toInt then S1 AK.length else (cell 4 m).toInt else AE) AJ (if (if S1 AK.length < (cell 4 m).toInt then S1 AK.length else (cell 4 m).toInt) > AE then if S1 AK.length < (cell 4 m).toInt then S1 AK.length else (cell 4 m).toInt else AE) AG AF AH fun u3 => (k0 (if (if S1 AK.length < (cell 4 m).toInt then S1 AK.length else (cell 4 m).toInt) > AE then if S1 AK.length < (cell 4 m).toInt then S1 AK.length else (cell 4 m).toInt else AE) (if (if S1 AK.length < (cell 4 m).toInt then S1 AK.length else (cell 4 m).toInt) > AE then if S1 AK.length < (cell 4 m).toInt then S1 AK.length else (cell 4 m).toInt else AE) u3)
def F46 {R : Type} := shut (@nX R)
theorem ek {R : Type} (fu : Nat) (m : List D) (AL AC : Int) (AA : List (List D)) (AB : Bool) (AK : List (List D)) (AI : Bool) (AD AJ AE AG : Int) (AF : Bool) (AH : Int) (k0 : Int -> Int -> (List (List D)) -> Option R) : F46 fu m AL AC AA AB AK AI AD AJ AE AG AF AH k0 = nX fu m AL AC AA AB AK AI AD AJ AE AG AF AH k0 := by unfold F46; rw [O2]
def pW (fu : Nat) : Nat -> Option M1 := fun _ => none
def t46 (fu : Nat) : J1 := fun _ args s K => match args, s with
 | [.ptr 0 0, .agg [.int .i64 q, .int .i64 q1, .int .i64 q2, .int .i64 q3, .int .i64 q4, .int .i64 q5, .bool q6, .str q7]], [.obj [.int .i64 AL, .int .i64 AC, .fz U4 AA false, .bool AB, .fz C6 AK false, .bool AI, .int .i64 AD, .int .i64 AJ, .int .i64 AE, .int .i64 AG, .bool AF, .int .i64 AH]] => (match FT.F0 U4 X1 with | true => (match FT.F0 C6 D1 with | true => F46 fu [D.int q, D.int q1, D.int q2, D.int q3, D.int q4, D.int q5, D.bool q6, D.str q7] AL AC AA AB AK AI AD AJ AE AG AF AH (fun o_ N1 J2 => K (.own 1) [.obj [.int .i64 (AL), .int .i64 (AC), .fz X1 (AA) false, .bool (AB), .fz D1 (AK) false, .bool (AI), .int .i64 o_, .int .i64 (AJ), .int .i64 N1, .int .i64 (AG), .bool (AF), .int .i64 (AH)], .row L2 J2]) | false => none) | false => none)
 | _, _ => none
theorem e46 (R : Type) (K : UV -> O0 -> Option R) (fu : Nat) (q q1 q2 q3 q4 q5 : Int) (q6 : Bool) (q7 : ByteArray) (AL AC : Int) (AA : List (List D)) (AB : Bool) (AK : List (List D)) (AI : Bool) (AD AJ AE AG : Int) (AF : Bool) (AH : Int) :
  F46 fu [D.int q, D.int q1, D.int q2, D.int q3, D.int q4, D.int q5, D.bool q6, D.str q7] AL AC AA AB AK AI AD AJ AE AG AF AH (fun o_ N1 J2 => K (.own 1) [.obj [.int .i64 (AL), .int .i64 (AC), .fz X1 (AA) false, .bool (AB), .fz D1 (AK) false, .bool (AI), .int .i64 o_, .int .i64 (AJ), .int .i64 N1, .int .i64 (AG), .bool (AF), .int .i64 (AH)], .row L2 J2]) = I6 Try.prog ⟨(aG fu), pW fu⟩ 300 46 [.ptr 0 0, .agg [.int .i64 q, .int .i64 q1, .int .i64 q2, .int .i64 q3, .int .i64 q4, .int .i64 q5, .bool q6, .str q7]] [.obj [.int .i64 AL, .int .i64 AC, .fz X1 AA false, .bool AB, .fz D1 AK false, .bool AI, .int .i64 AD, .int .i64 AJ, .int .i64 AE, .int .i64 AG, .bool AF, .int .i64 AH]] (W6 1 [.j9 0 [] L2, .gc, .S3 0 2 X1, .S3 0 4 D1, .gc] K) := (ek fu _ _ _ _ _ _ _ _ _ _ _ _ _ _).trans (by kernel_rfl)
theorem s46 (fu : Nat) : N3 Try.prog 46 (t46 fu) := by
 refine y0 (T := ⟨(aG fu), pW fu⟩) (m := 1) (gout := [.j9 0 [] L2, .gc, .S3 0 2 X1, .S3 0 4 D1, .gc]) (k := 300) (MI fu) (fun fn body hf hb => ?_) (fun R args s K r h => ?_) (fun R args s K r h => ?_)
 ·have hc : body = dP := by
   have h1 : Try.prog.funcs[46]? = some Try.f46 := rfl
   rw [h1] at hf; cases hf
   have h2 : Try.f46.body = some dP := rfl
   rw [h2] at hb; cases hb; rfl
  subst hc
  exact R0.none _ _ _
 ·unfold t46 at h; split at h
  ·rfl
  ·cases h
 ·unfold t46 at h; split at h
  case h_2 => cases h
  iterate 2 (split at h; (case h_2 => cases h); rename_i hq; have hq := FT.J0 _ _ hq; subst hq)
  exact (e46 R K fu _ _ _ _ _ _ _ _ _ _ _ _ _ _ _ _ _ _ _ _).symm.trans h
def aF (fu : Nat) : FuncId -> Option (Bool × J1) := fun f => match Nat.beq f 46 with
 | true => some (false, OS (CA [.gc, .S3 0 2 X1, .S3 0 4 D1, .gc] (t46 fu)))
 | false => (aG fu) f
theorem MH (fu : Nat) : C2 Try.prog (aF fu) := by
 intro f own told h
 unfold aF at h
 split at h
 ·rename_i hb
  cases h
  have := B6 hb
  subst this
  exact M4 (O1 (s46 fu))
 ·exact (MI fu) f own told h
end Go.Proofs.Ythlbahcggmbfaaa.V
end
noncomputable section
namespace Go.Proofs.Ythlbahcggmbfaaa.V
set_option maxRecDepth 100000
set_option maxHeartbeats 4000000
def da : Code := match Try.f28.body with | some c => c | none => .skip
def nr {R : Type} (fu : Nat) (m : List D) (AL AC : Int) (AA : List (List D)) (AB : Bool) (AK : List (List D)) (AI : Bool) (AD AJ AE AG : Int) (AF : Bool) (AH : Int) (k0 : (List (List D)) -> Int -> Int -> Bool -> Int -> (List (List D)) -> Option R) : Option R :=
 bif !AI then (k0 AK AD AE AF AH []) else bif !decide ((cell 2 m).toInt = AL) then (k0 AK AD AE AF AH []) else bif !decide ((cell 3 m).toInt = AC) then (k0 AK AD AE AF AH []) else bif decide ((cell 1 m).toInt < 0) then (k0 AK AD AE AF AH []) else bif decide ((cell 0 m).toInt = 0) then F25 fu [D.int AC, D.row AA, D.bool AB] AL fun u3 => bif decide ((cell 1 m).toInt = u3) then F45 fu [D.int (cell 0 m).toInt, D.int (cell 1 m).toInt, D.int (cell 2 m).toInt, D.int (cell 3 m).toInt, D.int (cell 4 m).toInt, D.int (cell 5 m).toInt, D.bool (cell 6 m).toBool, D.str (cell 7 m).toStr] AL AC AA AB AK AI AD AJ AE AG AF AH fun N1 J2 B3 A4 => (k0 N1 J2 AE true B3 A4) else bif decide ((cell 0 m).toInt = 1) then F26 fu [D.int AC, D.row AA, D.bool AB] AL fun G5 => bif decide ((cell 1 m).toInt = G5) then F46 fu [D.int (cell 0 m).toInt, D.int (cell 1 m).toInt, D.int (cell 2 m).toInt, D.int (cell 3 m).toInt, D.int (cell 4 m).toInt, D.int (cell 5 m).toInt, D.bool (cell 6 m).toBool, D.str (cell 7 m).toStr] AL AC AA AB AK AI AD AJ AE AG AF AH fun Y5 B9 W8 => (k0 AK Y5 B9 AF AH W8) else (k0 AK AD AE AF AH []) else (k0 AK AD AE AF AH []) else bif decide ((cell 0 m).toInt = 1) then F26 fu [D.int AC, D.row AA, D.bool AB] AL fun R9 => bif decide ((cell 1 m).toInt = R9) then F46 fu [D.int (cell 0 m).toInt, D.int (cell 1 m).toInt, D.int (cell 2 m).toInt, D.int (cell 3 m).toInt, D.int (cell 4 m).toInt, D.int (cell 5 m).toInt, D.bool (cell 6 m).toBool, D.str (cell 7 m).toStr] AL AC AA AB AK AI AD AJ AE AG AF AH fun Q5 H5 I7 => (k0 AK Q5 H5 AF AH I7) else (k0 AK AD AE AF AH []) else (k0 AK AD AE AF AH [])
def F28 {R : Type} := shut (@nr R)
theorem fI {R : Type} (fu : Nat) (m : List D) (AL AC : Int) (AA : List (List D)) (AB : Bool) (AK : List (List D)) (AI : Bool) (AD AJ AE AG : Int) (AF : Bool) (AH : Int) (k0 : (List (List D)) -> Int -> Int -> Bool -> Int -> (List (List D)) -> Option R) : F28 fu m AL AC AA AB AK AI AD AJ AE AG AF AH k0 = nr fu m AL AC AA AB AK AI AD AJ AE AG AF AH k0 := by unfold F28; rw [O2]
def pj (fu : Nat) : Nat -> Option M1 := fun _ => none
def t28 (fu : Nat) : J1 := fun _ args s K => match args, s with
 | [.ptr 0 0, .agg [.int .i64 q, .int .i64 q1, .int .i64 q2, .int .i64 q3, .int .i64 q4, .int .i64 q5, .bool q6, .str q7]], [.obj [.int .i64 AL, .int .i64 AC, .fz U4 AA false, .bool AB, .fz C6 AK false, .bool AI, .int .i64 AD, .int .i64 AJ, .int .i64 AE, .int .i64 AG, .bool AF, .int .i64 AH]] => (match FT.F0 U4 X1 with | true => (match FT.F0 C6 D1 with | true => F28 fu [D.int q, D.int q1, D.int q2, D.int q3, D.int q4, D.int q5, D.bool q6, D.str q7] AL AC AA AB AK AI AD AJ AE AG AF AH (fun o_ N1 J2 B3 A4 G5 => K (.own 1) [.obj [.int .i64 (AL), .int .i64 (AC), .fz X1 (AA) false, .bool (AB), .fz D1 o_ false, .bool (AI), .int .i64 N1, .int .i64 (AJ), .int .i64 J2, .int .i64 (AG), .bool B3, .int .i64 A4], .row L2 G5]) | false => none) | false => none)
 | _, _ => none
theorem e28 (R : Type) (K : UV -> O0 -> Option R) (fu : Nat) (q q1 q2 q3 q4 q5 : Int) (q6 : Bool) (q7 : ByteArray) (AL AC : Int) (AA : List (List D)) (AB : Bool) (AK : List (List D)) (AI : Bool) (AD AJ AE AG : Int) (AF : Bool) (AH : Int) :
  F28 fu [D.int q, D.int q1, D.int q2, D.int q3, D.int q4, D.int q5, D.bool q6, D.str q7] AL AC AA AB AK AI AD AJ AE AG AF AH (fun o_ N1 J2 B3 A4 G5 => K (.own 1) [.obj [.int .i64 (AL), .int .i64 (AC), .fz X1 (AA) false, .bool (AB), .fz D1 o_ false, .bool (AI), .int .i64 N1, .int .i64 (AJ), .int .i64 J2, .int .i64 (AG), .bool B3, .int .i64 A4], .row L2 G5]) = I6 Try.prog ⟨(aF fu), pj fu⟩ 300 28 [.ptr 0 0, .agg [.int .i64 q, .int .i64 q1, .int .i64 q2, .int .i64 q3, .int .i64 q4, .int .i64 q5, .bool q6, .str q7]] [.obj [.int .i64 AL, .int .i64 AC, .fz X1 AA false, .bool AB, .fz D1 AK false, .bool AI, .int .i64 AD, .int .i64 AJ, .int .i64 AE, .int .i64 AG, .bool AF, .int .i64 AH]] (W6 1 [.j9 0 [] L2, .gc, .S3 0 2 X1, .S3 0 4 D1, .gc] K) := (fI fu _ _ _ _ _ _ _ _ _ _ _ _ _ _).trans (by kernel_rfl)
theorem s28 (fu : Nat) : N3 Try.prog 28 (t28 fu) := by
 refine y0 (T := ⟨(aF fu), pj fu⟩) (m := 1) (gout := [.j9 0 [] L2, .gc, .S3 0 2 X1, .S3 0 4 D1, .gc]) (k := 300) (MH fu) (fun fn body hf hb => ?_) (fun R args s K r h => ?_) (fun R args s K r h => ?_)
 ·have hc : body = da := by
   have h1 : Try.prog.funcs[28]? = some Try.f28 := rfl
   rw [h1] at hf; cases hf
   have h2 : Try.f28.body = some da := rfl
   rw [h2] at hb; cases hb; rfl
  subst hc
  exact R0.none _ _ _
 ·unfold t28 at h; split at h
  ·rfl
  ·cases h
 ·unfold t28 at h; split at h
  case h_2 => cases h
  iterate 2 (split at h; (case h_2 => cases h); rename_i hq; have hq := FT.J0 _ _ hq; subst hq)
  exact (e28 R K fu _ _ _ _ _ _ _ _ _ _ _ _ _ _ _ _ _ _ _ _).symm.trans h
def aQ (fu : Nat) : FuncId -> Option (Bool × J1) := fun f => match Nat.beq f 28 with
 | true => some (false, OS (CA [.gc, .S3 0 2 X1, .S3 0 4 D1, .gc] (t28 fu)))
 | false => (aF fu) f
theorem MS (fu : Nat) : C2 Try.prog (aQ fu) := by
 intro f own told h
 unfold aQ at h
 split at h
 ·rename_i hb
  cases h
  have := B6 hb
  subst this
  exact M4 (O1 (s28 fu))
 ·exact (MH fu) f own told h
end Go.Proofs.Ythlbahcggmbfaaa.V
end
noncomputable section
namespace Go.Proofs.Ythlbahcggmbfaaa.V
set_option maxRecDepth 100000
set_option maxHeartbeats 4000000
def dr : Code := match Try.f14.body with | some c => c | none => .skip
def oF {R : Type} (fu : Nat) (k_ : Int) (k0 : ByteArray -> Option R) : Option R :=
 bif decide (↑((IL (IntKind.i32.wrap (IntKind.i64.wrap (97 + k_.tmod 26)))).size + (IL (IntKind.i32.wrap (IntKind.i64.wrap (97 + (IntKind.i64.wrap (k_.tdiv 26)).tmod 26)))).size) <= IntKind.i64.max) then (k0 (IL (IntKind.i32.wrap (IntKind.i64.wrap (97 + k_.tmod 26))) ++ IL (IntKind.i32.wrap (IntKind.i64.wrap (97 + (IntKind.i64.wrap (k_.tdiv 26)).tmod 26))))) else none
def F14 {R : Type} := shut (@oF R)
theorem fW {R : Type} (fu : Nat) (k_ : Int) (k0 : ByteArray -> Option R) : F14 fu k_ k0 = oF fu k_ k0 := by unfold F14; rw [O2]
def qC (fu : Nat) : Nat -> Option M1 := fun _ => none
def t14 (fu : Nat) : J1 := fun _ args s K => match args, s with
 | [.int .i64 k_], [] => F14 fu k_ (fun o_ => K (.str o_) [])
 | _, _ => none
theorem e14 (R : Type) (K : UV -> O0 -> Option R) (fu : Nat) (k_ : Int) :
  F14 fu k_ (fun o_ => K (.str o_) []) = I6 Try.prog ⟨(aQ fu), qC fu⟩ 300 14 [.int .i64 k_] [] (W6 0 [.gc] K) := (fW fu _ _).trans (by kernel_rfl)
theorem s14 (fu : Nat) : N3 Try.prog 14 (t14 fu) := by
 refine y0 (T := ⟨(aQ fu), qC fu⟩) (m := 0) (gout := [.gc]) (k := 300) (MS fu) (fun fn body hf hb => ?_) (fun R args s K r h => ?_) (fun R args s K r h => ?_)
 ·have hc : body = dr := by
   have h1 : Try.prog.funcs[14]? = some Try.f14 := rfl
   rw [h1] at hf; cases hf
   have h2 : Try.f14.body = some dr := rfl
   rw [h2] at hb; cases hb; rfl
  subst hc
  exact R0.none _ _ _
 ·unfold t14 at h; split at h
  ·rfl
  ·cases h
 ·unfold t14 at h; split at h
  case h_2 => cases h
  exact (e14 R K fu _).symm.trans h
def Xw (fu : Nat) : FuncId -> Option (Bool × J1) := fun f => match Nat.beq f 14 with
 | true => some (false, CA [] (t14 fu))
 | false => (aQ fu) f
theorem HK (fu : Nat) : C2 Try.prog (Xw fu) := by
 intro f own told h
 unfold Xw at h
 split at h
 ·rename_i hb
  cases h
  have := B6 hb
  subst this
  exact O1 (s14 fu)
 ·exact (MS fu) f own told h
end Go.Proofs.Ythlbahcggmbfaaa.V
end
noncomputable section
namespace Go.Proofs.Ythlbahcggmbfaaa.V
set_option maxRecDepth 100000
set_option maxHeartbeats 4000000
def Hd : Code := match Try.f18.body with | some c => c | none => .skip
theorem eP : N0 Hd 58 = some (.loop (V1 (N0 Hd 58))) := by kernel_rfl
def Jo {R : Type} (fu : Nat) (row x : List (List D)) (x1 : Int) : Nat -> Int -> (Option R) -> (Option R) -> Option R
 | 0, _, _, _ => none
 | n + 1, x2, k0, k1 => bif decide (x2 < x1) then bif within x2 x.length then bif within x2 row.length then bif !Bi (cell 0 (elem x2.toNat row)).toStr (cell 0 (elem x2.toNat x)).toStr then (k0) else (Jo fu row x x1 n (IntKind.i64.wrap (x2 + 1)) k0 k1) else none else none else (k1)
def Ml (fu n : Nat) : M1 := fun _ e s K => match e, s with
 | [.fz U4 row false, .fz C6 x false, .int .i64 x1, .int .i64 x2], [] => (match FT.F0 U4 D1 with | true => (match FT.F0 C6 D1 with | true => Jo fu row x x1 n x2 (K .ret (I0 (D0 5 0x10) [.bool (false)]) []) (K (.exit 0) (I0 (D0 5 0x0) []) []) | false => none) | false => none)
 | _, _ => none
def Wb (fu : Nat) : Nat -> Option M1 := fun _ => none
theorem nE (fu n : Nat) (R : Type) (K : Y2 -> R1 -> O0 -> Option R) (row x : List (List D)) (x1 x2 : Int) :
  Jo fu row x x1 (n + 1) x2 (K .ret (I0 (D0 5 0x10) [.bool (false)]) []) (K (.exit 0) (I0 (D0 5 0x0) []) []) = n4 Try.prog (Xw fu) 300 (Wb fu) 116 (V1 (N0 Hd 58)) (I0 (D0 15 0x7001) [.fz D1 row false, .fz D1 x false, .int .i64 x1, .int .i64 x2]) [] (BU 0 [.live (D0 15 0x7001), .V9 0 [] D1, .V9 12 [] D1, .gc] [.live (D0 5 0x10), .gc] (E8 (D0 15 0x7001) (Ml fu n)) K) := by kernel_rfl
theorem lD (fu : Nat) : R0 Try.prog 0 Hd (Wb fu) := R0.none _ _ _
theorem ki (fu : Nat) : ∀ n, l4 Try.prog 0 (.loop (V1 (N0 Hd 58))) (E8 (D0 15 0x7001) (Ml fu n)) := by
 refine H4 (gin := [.live (D0 15 0x7001), .V9 0 [] D1, .V9 12 [] D1, .gc]) (gout := [.live (D0 5 0x10), .gc]) (k := 300) (HK fu) (lD fu) (by decide) eP (fun R e s K => ?_) (fun n R e s K r h => ?_)
 ·unfold Ml; repeat' split
  all_goals rfl
 ·unfold Ml at h; split at h
  case h_2 => cases h
  iterate 2 (split at h; (case h_2 => cases h); rename_i hq; have hq := FT.J0 _ _ hq; subst hq)
  exact (nE fu n R K _ _ _ _).symm.trans h
def oC {R : Type} (fu : Nat) (row Et : List (List D)) (k0 : Bool -> Option R) : Option R :=
 bif decide (S1 row.length < S1 Et.length) then (k0 false) else Jo fu row Et (S1 Et.length) fu 0 ((k0 false)) ((k0 true))
def F18 {R : Type} := shut (@oC R)
theorem fS {R : Type} (fu : Nat) (row Et : List (List D)) (k0 : Bool -> Option R) : F18 fu row Et k0 = oC fu row Et k0 := by unfold F18; rw [O2]
def gi (fu : Nat) : Nat -> Option M1 := fun p => match Nat.beq p 58 with | true => some (Ie 0 [.live (D0 15 0x7001), .V9 0 [] D1, .V9 12 [] D1, .gc] (E8 (D0 15 0x7001) (Ml fu fu))) | false => none
def t18 (fu : Nat) : J1 := fun _ args s K => match args, s with
 | [.fz U4 row false, .fz C6 Et false], [] => (match FT.F0 U4 D1 with | true => (match FT.F0 C6 D1 with | true => F18 fu row Et (fun o_ => K (.bool o_) []) | false => none) | false => none)
 | _, _ => none
theorem e18 (R : Type) (K : UV -> O0 -> Option R) (fu : Nat) (row Et : List (List D)) :
  F18 fu row Et (fun o_ => K (.bool o_) []) = I6 Try.prog ⟨(Xw fu), gi fu⟩ 300 18 [.fz D1 row false, .fz D1 Et false] [] (W6 0 [.gc] K) := (fS fu _ _ _).trans (by kernel_rfl)
theorem s18 (fu : Nat) : N3 Try.prog 18 (t18 fu) := by
 refine y0 (T := ⟨(Xw fu), gi fu⟩) (m := 0) (gout := [.gc]) (k := 300) (HK fu) (fun fn body hf hb => ?_) (fun R args s K r h => ?_) (fun R args s K r h => ?_)
 ·have hc : body = Hd := by
   have h1 : Try.prog.funcs[18]? = some Try.f18 := rfl
   rw [h1] at hf; cases hf
   have h2 : Try.f18.body = some Hd := rfl
   rw [h2] at hb; cases hb; rfl
  subst hc
  exact fun p told h b hb => by
   replace h : gi fu p = some told := h
   unfold gi at h
   split at h
   ·rename_i hp
    cases h
    have := B6 hp
    subst this
    rw [eP] at hb
    cases hb
    exact C3 (ki fu _)
   ·
    cases h

 ·unfold t18 at h; split at h
  ·rfl
  ·cases h
 ·unfold t18 at h; split at h
  case h_2 => cases h
  iterate 2 (split at h; (case h_2 => cases h); rename_i hq; have hq := FT.J0 _ _ hq; subst hq)
  exact (e18 R K fu _ _).symm.trans h
def aa (fu : Nat) : FuncId -> Option (Bool × J1) := fun f => match Nat.beq f 18 with
 | true => some (false, CA [.V9 0 [] D1, .V9 1 [] D1] (t18 fu))
 | false => (Xw fu) f
theorem Mc (fu : Nat) : C2 Try.prog (aa fu) := by
 intro f own told h
 unfold aa at h
 split at h
 ·rename_i hb
  cases h
  have := B6 hb
  subst this
  exact O1 (s18 fu)
 ·exact (HK fu) f own told h
end Go.Proofs.Ythlbahcggmbfaaa.V
end
noncomputable section
namespace Go.Proofs.Ythlbahcggmbfaaa.V
set_option maxRecDepth 100000
set_option maxHeartbeats 4000000
def dt : Code := match Try.f12.body with | some c => c | none => .skip
def oH {R : Type} (fu : Nat) (n_ : Int) (k0 : Int -> Option R) : Option R :=
 (k0 (IntKind.i64.wrap (1 + (IntKind.i64.wrap n_).tmod 4)))
def F12 {R : Type} := shut (@oH R)
theorem fY {R : Type} (fu : Nat) (n_ : Int) (k0 : Int -> Option R) : F12 fu n_ k0 = oH fu n_ k0 := by unfold F12; rw [O2]
def qD (fu : Nat) : Nat -> Option M1 := fun _ => none
def t12 (fu : Nat) : J1 := fun _ args s K => match args, s with
 | [.int .u8 n_], [] => F12 fu n_ (fun o_ => K (.int .i64 o_) [])
 | _, _ => none
theorem e12 (R : Type) (K : UV -> O0 -> Option R) (fu : Nat) (n_ : Int) :
  F12 fu n_ (fun o_ => K (.int .i64 o_) []) = I6 Try.prog ⟨(aa fu), qD fu⟩ 300 12 [.int .u8 n_] [] (W6 0 [.gc] K) := (fY fu _ _).trans (by kernel_rfl)
theorem s12 (fu : Nat) : N3 Try.prog 12 (t12 fu) := by
 refine y0 (T := ⟨(aa fu), qD fu⟩) (m := 0) (gout := [.gc]) (k := 300) (Mc fu) (fun fn body hf hb => ?_) (fun R args s K r h => ?_) (fun R args s K r h => ?_)
 ·have hc : body = dt := by
   have h1 : Try.prog.funcs[12]? = some Try.f12 := rfl
   rw [h1] at hf; cases hf
   have h2 : Try.f12.body = some dt := rfl
   rw [h2] at hb; cases hb; rfl
  subst hc
  exact R0.none _ _ _
 ·unfold t12 at h; split at h
  ·rfl
  ·cases h
 ·unfold t12 at h; split at h
  case h_2 => cases h
  exact (e12 R K fu _).symm.trans h
def af (fu : Nat) : FuncId -> Option (Bool × J1) := fun f => match Nat.beq f 12 with
 | true => some (false, CA [] (t12 fu))
 | false => (aa fu) f
theorem Mf (fu : Nat) : C2 Try.prog (af fu) := by
 intro f own told h
 unfold af at h
 split at h
 ·rename_i hb
  cases h
  have := B6 hb
  subst this
  exact O1 (s12 fu)
 ·exact (Mc fu) f own told h
end Go.Proofs.Ythlbahcggmbfaaa.V
end
noncomputable section
namespace Go.Proofs.Ythlbahcggmbfaaa.V
set_option maxRecDepth 100000
set_option maxHeartbeats 4000000
abbrev G4 : List FT := [FT.int IntKind.i64, FT.int IntKind.i64, FT.row 8 [FT.int IntKind.i64], FT.bool, FT.row 16 [FT.str], FT.bool, FT.int IntKind.i64, FT.int IntKind.i64, FT.int IntKind.i64, FT.int IntKind.i64, FT.bool, FT.int IntKind.i64]
def dV : Code := match Try.f36.body with | some c => c | none => .skip
def ng {R : Type} (fu : Nat) (AG AD AE AA : List (List D)) (AB : Int) (AC : Bool) (AF : List (D × List D)) (k0 : (List (List D)) -> Option R) : Option R :=
 F50 fu 0 AF fun u3 N1 => bif fits (AD.length + 1) 40 then (k0 (AD ++ [[D.int (cell 0 u3).toInt, D.row (cell 1 u3).C0, D.bool (cell 2 u3).toBool]])) else none
def F36 {R : Type} := shut (@ng R)
theorem fC {R : Type} (fu : Nat) (AG AD AE AA : List (List D)) (AB : Int) (AC : Bool) (AF : List (D × List D)) (k0 : (List (List D)) -> Option R) : F36 fu AG AD AE AA AB AC AF k0 = ng fu AG AD AE AA AB AC AF k0 := by unfold F36; rw [O2]
def pc (fu : Nat) : Nat -> Option M1 := fun _ => none
def t36 (fu : Nat) : J1 := fun _ args s K => match args, s with
 | [.ptr 0 0], [.obj [.X0 1, .ptr 2 0, .own 3, .own 4, .fz U4 AA false, .int .i64 AB, .bool AC], .p0 C6 AG none, .obj [.map 5], .row Ag AD, .row Cj AE, .map (.int .i64) true Ci AF] => (match FT.F0 U4 D1 with | true => (match FT.F0 C6 G4 with | true => (match FT.F0 Ag P1 with | true => (match FT.F0 Cj L2 with | true => (match FT.F0 Ci P1 with | true => F36 fu AG AD AE AA AB AC AF (fun o_ => K (.tuple []) [.obj [.X0 1, .ptr 2 0, .own 6, .own 4, .fz D1 (AA) false, .int .i64 (AB), .bool (AC)], .p0 G4 (AG) none, .obj [.map 5], .gone, .row L2 (AE), .map (.int .i64) true P1 (AF), .row P1 o_]) | false => none) | false => none) | false => none) | false => none) | false => none)
 | _, _ => none
theorem e36 (R : Type) (K : UV -> O0 -> Option R) (fu : Nat) (AG AD AE AA : List (List D)) (AB : Int) (AC : Bool) (AF : List (D × List D)) :
  F36 fu AG AD AE AA AB AC AF (fun o_ => K (.tuple []) [.obj [.X0 1, .ptr 2 0, .own 6, .own 4, .fz D1 (AA) false, .int .i64 (AB), .bool (AC)], .p0 G4 (AG) none, .obj [.map 5], .gone, .row L2 (AE), .map (.int .i64) true P1 (AF), .row P1 o_]) = I6 Try.prog ⟨(af fu), pc fu⟩ 300 36 [.ptr 0 0] [.obj [.X0 1, .ptr 2 0, .own 3, .own 4, .fz D1 AA false, .int .i64 AB, .bool AC], .p0 G4 AG none, .obj [.map 5], .row P1 AD, .row L2 AE, .map (.int .i64) true P1 AF] (W6 6 [.gc, .X3 0 2 P1, .X3 0 3 L2, .S3 0 4 D1, .gc] K) := (fC fu _ _ _ _ _ _ _ _).trans (by kernel_rfl)
theorem s36 (fu : Nat) : N3 Try.prog 36 (t36 fu) := by
 refine y0 (T := ⟨(af fu), pc fu⟩) (m := 6) (gout := [.gc, .X3 0 2 P1, .X3 0 3 L2, .S3 0 4 D1, .gc]) (k := 300) (Mf fu) (fun fn body hf hb => ?_) (fun R args s K r h => ?_) (fun R args s K r h => ?_)
 ·have hc : body = dV := by
   have h1 : Try.prog.funcs[36]? = some Try.f36 := rfl
   rw [h1] at hf; cases hf
   have h2 : Try.f36.body = some dV := rfl
   rw [h2] at hb; cases hb; rfl
  subst hc
  exact R0.none _ _ _
 ·unfold t36 at h; split at h
  ·rfl
  ·cases h
 ·unfold t36 at h; split at h
  case h_2 => cases h
  iterate 5 (split at h; (case h_2 => cases h); rename_i hq; have hq := FT.J0 _ _ hq; subst hq)
  exact (e36 R K fu _ _ _ _ _ _ _).symm.trans h
def aK (fu : Nat) : FuncId -> Option (Bool × J1) := fun f => match Nat.beq f 36 with
 | true => some (false, CA [.gc, .FN 0 0 G4, .X3 0 2 P1, .X3 0 3 L2, .S3 0 4 D1, .gc] (t36 fu))
 | false => (af fu) f
theorem MM (fu : Nat) : C2 Try.prog (aK fu) := by
 intro f own told h
 unfold aK at h
 split at h
 ·rename_i hb
  cases h
  have := B6 hb
  subst this
  exact O1 (s36 fu)
 ·exact (Mf fu) f own told h
end Go.Proofs.Ythlbahcggmbfaaa.V
end
noncomputable section
namespace Go.Proofs.Ythlbahcggmbfaaa.V
set_option maxRecDepth 100000
set_option maxHeartbeats 4000000
def dU : Code := match Try.f37.body with | some c => c | none => .skip
def nf {R : Type} (fu : Nat) (at_ : Int) (stays : Bool) (AG AD AE AA : List (List D)) (AB : Int) (AC : Bool) (AF : List (D × List D)) (k0 k1 : (List (List D)) -> (List (List D)) -> Option R) (k2 : Option R) : Option R :=
 bif within at_ AE.length then bif !stays then bif decide ((0 : Int) <= 0 /\ 0 <= at_) && H9 at_ AE.length then bif fits (0 + (part AE 0 at_.toNat).length) 72 then bif decide (0 <= IntKind.i64.wrap (at_ + 1) /\ IntKind.i64.wrap (at_ + 1) <= S1 AE.length) && H9 (S1 AE.length) AE.length then bif fits ((part AE 0 at_.toNat).length + (part AE (IntKind.i64.wrap (at_ + 1)).toNat (S1 AE.length).toNat).length) 72 then bif decide (0 <= (cell 2 (elem at_.toNat AE)).toInt) then bif decide ((cell 2 (elem at_.toNat AE)).toInt < 5) then bif within (cell 2 (elem at_.toNat AE)).toInt AG.length then R7 (elem (cell 2 (elem at_.toNat AE)).toInt.toNat AG) fun Z0 => F28 fu [D.int (cell 0 (elem at_.toNat AE)).toInt, D.int (cell 1 (elem at_.toNat AE)).toInt, D.int (cell 2 (elem at_.toNat AE)).toInt, D.int (cell 3 (elem at_.toNat AE)).toInt, D.int (cell 4 (elem at_.toNat AE)).toInt, D.int (cell 5 (elem at_.toNat AE)).toInt, D.bool (cell 6 (elem at_.toNat AE)).toBool, D.str (cell 7 (elem at_.toNat AE)).toStr] (cell 0 Z0).toInt (cell 1 Z0).toInt (cell 2 Z0).C0 (cell 3 Z0).toBool (cell 4 Z0).C0 (cell 5 Z0).toBool (cell 6 Z0).toInt (cell 7 Z0).toInt (cell 8 Z0).toInt (cell 9 Z0).toInt (cell 10 Z0).toBool (cell 11 Z0).toInt fun N1 J2 B3 A4 G5 Y5 => S7 (setAt AG (cell 2 (elem at_.toNat AE)).toInt.toNat [D.int (cell 0 Z0).toInt, D.int (cell 1 Z0).toInt, D.row (cell 2 Z0).C0, D.bool (cell 3 Z0).toBool, D.row N1, D.bool (cell 5 Z0).toBool, D.int J2, D.int (cell 7 Z0).toInt, D.int B3, D.int (cell 9 Z0).toInt, D.bool A4, D.int G5]) fun dA => bif fits ((part AE 0 at_.toNat ++ part AE (IntKind.i64.wrap (at_ + 1)).toNat (S1 AE.length).toNat).length + Y5.length) 72 then (k0 dA (part AE 0 at_.toNat ++ part AE (IntKind.i64.wrap (at_ + 1)).toNat (S1 AE.length).toNat ++ Y5)) else none else none else (k0 AG (part AE 0 at_.toNat ++ part AE (IntKind.i64.wrap (at_ + 1)).toNat (S1 AE.length).toNat)) else (k0 AG (part AE 0 at_.toNat ++ part AE (IntKind.i64.wrap (at_ + 1)).toNat (S1 AE.length).toNat)) else none else none else none else none else bif decide (0 <= (cell 2 (elem at_.toNat AE)).toInt) then bif decide ((cell 2 (elem at_.toNat AE)).toInt < 5) then bif within (cell 2 (elem at_.toNat AE)).toInt AG.length then R7 (elem (cell 2 (elem at_.toNat AE)).toInt.toNat AG) fun Z8 => F28 fu [D.int (cell 0 (elem at_.toNat AE)).toInt, D.int (cell 1 (elem at_.toNat AE)).toInt, D.int (cell 2 (elem at_.toNat AE)).toInt, D.int (cell 3 (elem at_.toNat AE)).toInt, D.int (cell 4 (elem at_.toNat AE)).toInt, D.int (cell 5 (elem at_.toNat AE)).toInt, D.bool (cell 6 (elem at_.toNat AE)).toBool, D.str (cell 7 (elem at_.toNat AE)).toStr] (cell 0 Z8).toInt (cell 1 Z8).toInt (cell 2 Z8).C0 (cell 3 Z8).toBool (cell 4 Z8).C0 (cell 5 Z8).toBool (cell 6 Z8).toInt (cell 7 Z8).toInt (cell 8 Z8).toInt (cell 9 Z8).toInt (cell 10 Z8).toBool (cell 11 Z8).toInt fun R9 Q5 H5 I7 M6 q8 => S7 (setAt AG (cell 2 (elem at_.toNat AE)).toInt.toNat [D.int (cell 0 Z8).toInt, D.int (cell 1 Z8).toInt, D.row (cell 2 Z8).C0, D.bool (cell 3 Z8).toBool, D.row R9, D.bool (cell 5 Z8).toBool, D.int Q5, D.int (cell 7 Z8).toInt, D.int H5, D.int (cell 9 Z8).toInt, D.bool I7, D.int M6]) fun vI => bif fits (AE.length + q8.length) 72 then (k1 vI (AE ++ q8)) else none else none else (k2) else (k2) else none
def F37 {R : Type} := shut (@nf R)
theorem fB {R : Type} (fu : Nat) (at_ : Int) (stays : Bool) (AG AD AE AA : List (List D)) (AB : Int) (AC : Bool) (AF : List (D × List D)) (k0 k1 : (List (List D)) -> (List (List D)) -> Option R) (k2 : Option R) : F37 fu at_ stays AG AD AE AA AB AC AF k0 k1 k2 = nf fu at_ stays AG AD AE AA AB AC AF k0 k1 k2 := by unfold F37; rw [O2]
def pb (fu : Nat) : Nat -> Option M1 := fun _ => none
def t37 (fu : Nat) : J1 := fun _ args s K => match args, s with
 | [.ptr 0 0, .int .i64 at_, .bool stays], [.obj [.X0 1, .ptr 2 0, .own 3, .own 4, .fz U4 AA false, .int .i64 AB, .bool AC], .p0 C6 AG none, .obj [.map 5], .row Ag AD, .row Cj AE, .map (.int .i64) true Ci AF] => (match FT.F0 U4 D1 with | true => (match FT.F0 C6 G4 with | true => (match FT.F0 Ag P1 with | true => (match FT.F0 Cj L2 with | true => (match FT.F0 Ci P1 with | true => F37 fu at_ stays AG AD AE AA AB AC AF (fun o_ N1 => K (.tuple []) [.obj [.X0 1, .ptr 2 0, .own 3, .own 6, .fz D1 (AA) false, .int .i64 (AB), .bool (AC)], .p0 G4 o_ none, .obj [.map 5], .row P1 (AD), .old L2 (AE), .map (.int .i64) true P1 (AF), .row L2 N1]) (fun o_ N1 => K (.tuple []) [.obj [.X0 1, .ptr 2 0, .own 3, .own 6, .fz D1 (AA) false, .int .i64 (AB), .bool (AC)], .p0 G4 o_ none, .obj [.map 5], .row P1 (AD), .gone, .map (.int .i64) true P1 (AF), .row L2 N1]) (K (.tuple []) [.obj [.X0 1, .ptr 2 0, .own 3, .own 4, .fz D1 (AA) false, .int .i64 (AB), .bool (AC)], .p0 G4 (AG) none, .obj [.map 5], .row P1 (AD), .row L2 (AE), .map (.int .i64) true P1 (AF)]) | false => none) | false => none) | false => none) | false => none) | false => none)
 | _, _ => none
theorem e37 (R : Type) (K : UV -> O0 -> Option R) (fu : Nat) (at_ : Int) (stays : Bool) (AG AD AE AA : List (List D)) (AB : Int) (AC : Bool) (AF : List (D × List D)) :
  F37 fu at_ stays AG AD AE AA AB AC AF (fun o_ N1 => K (.tuple []) [.obj [.X0 1, .ptr 2 0, .own 3, .own 6, .fz D1 (AA) false, .int .i64 (AB), .bool (AC)], .p0 G4 o_ none, .obj [.map 5], .row P1 (AD), .old L2 (AE), .map (.int .i64) true P1 (AF), .row L2 N1]) (fun o_ N1 => K (.tuple []) [.obj [.X0 1, .ptr 2 0, .own 3, .own 6, .fz D1 (AA) false, .int .i64 (AB), .bool (AC)], .p0 G4 o_ none, .obj [.map 5], .row P1 (AD), .gone, .map (.int .i64) true P1 (AF), .row L2 N1]) (K (.tuple []) [.obj [.X0 1, .ptr 2 0, .own 3, .own 4, .fz D1 (AA) false, .int .i64 (AB), .bool (AC)], .p0 G4 (AG) none, .obj [.map 5], .row P1 (AD), .row L2 (AE), .map (.int .i64) true P1 (AF)]) = I6 Try.prog ⟨(aK fu), pb fu⟩ 300 37 [.ptr 0 0, .int .i64 at_, .bool stays] [.obj [.X0 1, .ptr 2 0, .own 3, .own 4, .fz D1 AA false, .int .i64 AB, .bool AC], .p0 G4 AG none, .obj [.map 5], .row P1 AD, .row L2 AE, .map (.int .i64) true P1 AF] (W6 6 [.gc, .X3 0 2 P1, .X3 0 3 L2, .S3 0 4 D1, .gc] K) := (fB fu _ _ _ _ _ _ _ _ _ _ _ _).trans (by kernel_rfl)
theorem s37 (fu : Nat) : N3 Try.prog 37 (t37 fu) := by
 refine y0 (T := ⟨(aK fu), pb fu⟩) (m := 6) (gout := [.gc, .X3 0 2 P1, .X3 0 3 L2, .S3 0 4 D1, .gc]) (k := 300) (MM fu) (fun fn body hf hb => ?_) (fun R args s K r h => ?_) (fun R args s K r h => ?_)
 ·have hc : body = dU := by
   have h1 : Try.prog.funcs[37]? = some Try.f37 := rfl
   rw [h1] at hf; cases hf
   have h2 : Try.f37.body = some dU := rfl
   rw [h2] at hb; cases hb; rfl
  subst hc
  exact R0.none _ _ _
 ·unfold t37 at h; split at h
  ·rfl
  ·cases h
 ·unfold t37 at h; split at h
  case h_2 => cases h
  iterate 5 (split at h; (case h_2 => cases h); rename_i hq; have hq := FT.J0 _ _ hq; subst hq)
  exact (e37 R K fu _ _ _ _ _ _ _ _ _).symm.trans h
def Uk (fu : Nat) : FuncId -> Option (Bool × J1) := fun f => match Nat.beq f 37 with
 | true => some (false, CA [.gc, .FN 0 0 G4, .X3 0 2 P1, .X3 0 3 L2, .S3 0 4 D1, .gc] (t37 fu))
 | false => (aK fu) f
theorem Dw (fu : Nat) : C2 Try.prog (Uk fu) := by
 intro f own told h
 unfold Uk at h
 split at h
 ·rename_i hb
  cases h
  have := B6 hb
  subst this
  exact O1 (s37 fu)
 ·exact (MM fu) f own told h
end Go.Proofs.Ythlbahcggmbfaaa.V
end
noncomputable section
namespace Go.Proofs.Ythlbahcggmbfaaa.V
set_option maxRecDepth 100000
set_option maxHeartbeats 4000000
def Bg : Code := match Try.f39.body with | some c => c | none => .skip
theorem eM : N0 Bg 10 = some (.loop (V1 (N0 Bg 10))) := by kernel_rfl
def BB {R : Type} (fu : Nat) (x : Int) : Nat -> Int -> (List (List D)) -> Bool -> (List (List D)) -> ((List (List D)) -> (List (List D)) -> Option R) -> ((List (List D)) -> Bool -> (List (List D)) -> Option R) -> Option R
 | 0, _, _, _, _, _, _ => none
 | n + 1, x1, w, w2, y, k0, k1 => bif decide (x1 < x) then bif within x1 y.length then R7 (elem x1.toNat y) fun Z0 => F16 fu (cell 0 Z0).toInt (cell 1 Z0).toInt (cell 2 Z0).C0 (cell 3 Z0).toBool (cell 4 Z0).C0 (cell 5 Z0).toBool (cell 6 Z0).toInt (cell 7 Z0).toInt (cell 8 Z0).toInt (cell 9 Z0).toInt (cell 10 Z0).toBool (cell 11 Z0).toInt (S7 (setAt y x1.toNat [D.int (cell 0 Z0).toInt, D.int (cell 1 Z0).toInt, D.row (cell 2 Z0).C0, D.bool (cell 3 Z0).toBool, D.row (cell 4 Z0).C0, D.bool (cell 5 Z0).toBool, D.int (cell 6 Z0).toInt, D.int (cell 7 Z0).toInt, D.int (cell 8 Z0).toInt, D.int (cell 9 Z0).toInt, D.bool (cell 10 Z0).toBool, D.int (cell 11 Z0).toInt]) fun Yz => R7 (elem x1.toNat Yz) fun Z2 => F17 fu (cell 0 Z2).toInt (cell 1 Z2).toInt (cell 2 Z2).C0 (cell 3 Z2).toBool (cell 4 Z2).C0 (cell 5 Z2).toBool (cell 6 Z2).toInt (cell 7 Z2).toInt (cell 8 Z2).toInt (cell 9 Z2).toInt (cell 10 Z2).toBool (cell 11 Z2).toInt (S7 (setAt Yz x1.toNat [D.int (cell 0 Z2).toInt, D.int (cell 1 Z2).toInt, D.row (cell 2 Z2).C0, D.bool (cell 3 Z2).toBool, D.row (cell 4 Z2).C0, D.bool (cell 5 Z2).toBool, D.int (cell 6 Z2).toInt, D.int (cell 7 Z2).toInt, D.int (cell 8 Z2).toInt, D.int (cell 9 Z2).toInt, D.bool (cell 10 Z2).toBool, D.int (cell 11 Z2).toInt]) fun Zh => bif decide ((cell 6 Z2).toInt < 0) then (k0 w Zh) else bif decide (S1 (cell 4 Z0).C0.length < (cell 6 Z2).toInt) then (k0 w Zh) else bif decide ((0 : Int) <= 0 /\ 0 <= (cell 6 Z2).toInt) && H9 (cell 6 Z2).toInt (cell 4 Z0).C0.length then bif w2 then bif decide (S1 w.length < S1 (part (cell 4 Z0).C0 0 (cell 6 Z2).toInt.toNat).length) then (BB fu x n (IntKind.i64.wrap (x1 + 1)) (part (cell 4 Z0).C0 0 (cell 6 Z2).toInt.toNat) true Zh k0 k1) else (BB fu x n (IntKind.i64.wrap (x1 + 1)) w true Zh k0 k1) else F18 fu (part (cell 4 Z0).C0 0 (cell 6 Z2).toInt.toNat) w fun A4 => bif !A4 then F18 fu w (part (cell 4 Z0).C0 0 (cell 6 Z2).toInt.toNat) fun G5 => bif decide (S1 w.length < S1 (part (cell 4 Z0).C0 0 (cell 6 Z2).toInt.toNat).length) then (BB fu x n (IntKind.i64.wrap (x1 + 1)) (part (cell 4 Z0).C0 0 (cell 6 Z2).toInt.toNat) (!G5) Zh k0 k1) else (BB fu x n (IntKind.i64.wrap (x1 + 1)) w (!G5) Zh k0 k1) else bif decide (S1 w.length < S1 (part (cell 4 Z0).C0 0 (cell 6 Z2).toInt.toNat).length) then (BB fu x n (IntKind.i64.wrap (x1 + 1)) (part (cell 4 Z0).C0 0 (cell 6 Z2).toInt.toNat) false Zh k0 k1) else (BB fu x n (IntKind.i64.wrap (x1 + 1)) w false Zh k0 k1) else none)) else none else (k1 w w2 y)
def Mk (fu n : Nat) : M1 := fun _ e s K => match e, s with
 | [.ptr 0 0, .X0 1, .int .i64 x, .int .i64 x1], [.obj [.X0 1, .ptr 2 0, .own 3, .own 4, .fz U4 w false, .int .i64 w1, .bool w2], .p0 C6 y none, .obj [.map 5], .row Ag y1, .row Cj y2, .map (.int .i64) true Ci y3] => (match FT.F0 U4 D1 with | true => (match FT.F0 C6 G4 with | true => (match FT.F0 Ag P1 with | true => (match FT.F0 Cj L2 with | true => (match FT.F0 Ci P1 with | true => BB fu x n x1 w w2 y (fun o_ N1 => K .ret (I0 (D0 1 0x1) [.ptr 0 0]) [.obj [.X0 1, .ptr 2 0, .own 3, .own 4, .fz D1 o_ false, .int .i64 (w1), .bool (true)], .p0 G4 N1 none, .obj [.map 5], .row P1 (y1), .row L2 (y2), .map (.int .i64) true P1 (y3)]) (fun o_ N1 J2 => K (.exit 0) (I0 (D0 1 0x1) [.ptr 0 0]) [.obj [.X0 1, .ptr 2 0, .own 3, .own 4, .fz D1 o_ false, .int .i64 (w1), .bool N1], .p0 G4 J2 none, .obj [.map 5], .row P1 (y1), .row L2 (y2), .map (.int .i64) true P1 (y3)]) | false => none) | false => none) | false => none) | false => none) | false => none)
 | _, _ => none
def Wa (fu : Nat) : Nat -> Option M1 := fun _ => none
theorem nB (fu n : Nat) (R : Type) (K : Y2 -> R1 -> O0 -> Option R) (x x1 : Int) (w : List (List D)) (w1 : Int) (w2 : Bool) (y y1 y2 : List (List D)) (y3 : List (D × List D)) :
  BB fu x (n + 1) x1 w w2 y (fun o_ N1 => K .ret (I0 (D0 1 0x1) [.ptr 0 0]) [.obj [.X0 1, .ptr 2 0, .own 3, .own 4, .fz D1 o_ false, .int .i64 (w1), .bool (true)], .p0 G4 N1 none, .obj [.map 5], .row P1 (y1), .row L2 (y2), .map (.int .i64) true P1 (y3)]) (fun o_ N1 J2 => K (.exit 0) (I0 (D0 1 0x1) [.ptr 0 0]) [.obj [.X0 1, .ptr 2 0, .own 3, .own 4, .fz D1 o_ false, .int .i64 (w1), .bool N1], .p0 G4 J2 none, .obj [.map 5], .row P1 (y1), .row L2 (y2), .map (.int .i64) true P1 (y3)]) = n4 Try.prog (Uk fu) 300 (Wa fu) 20 (V1 (N0 Bg 10)) (I0 (D0 17 0x1c001) [.ptr 0 0, .X0 1, .int .i64 x, .int .i64 x1]) [.obj [.X0 1, .ptr 2 0, .own 3, .own 4, .fz D1 w false, .int .i64 w1, .bool w2], .p0 G4 y none, .obj [.map 5], .row P1 y1, .row L2 y2, .map (.int .i64) true P1 y3] (BU 6 [.live (D0 17 0x1c001), .gc] [.live (D0 1 0x1), .gc] (E8 (D0 17 0x1c001) (Mk fu n)) K) := by kernel_rfl
theorem lA (fu : Nat) : R0 Try.prog 6 Bg (Wa fu) := R0.none _ _ _
theorem ke (fu : Nat) : ∀ n, l4 Try.prog 6 (.loop (V1 (N0 Bg 10))) (E8 (D0 17 0x1c001) (Mk fu n)) := by
 refine H4 (gin := [.live (D0 17 0x1c001), .gc]) (gout := [.live (D0 1 0x1), .gc]) (k := 300) (Dw fu) (lA fu) (by decide) eM (fun R e s K => ?_) (fun n R e s K r h => ?_)
 ·unfold Mk; repeat' split
  all_goals rfl
 ·unfold Mk at h; split at h
  case h_2 => cases h
  iterate 5 (split at h; (case h_2 => cases h); rename_i hq; have hq := FT.J0 _ _ hq; subst hq)
  exact (nB fu n R K _ _ _ _ _ _ _ _ _).symm.trans h
theorem eL : N0 Bg 30 = some (.loop (V1 (N0 Bg 30))) := by kernel_rfl
def P7 {R : Type} (fu : Nat) (x : List (List D)) (x1 : Int) (w c1 : List (List D)) (c2 : Bool) : Nat -> Int -> Bool -> (List (List D)) -> (Bool -> (List (List D)) -> Option R) -> Option R
 | 0, _, _, _, _ => none
 | n + 1, x2, w2, y, k0 => bif decide (x2 < x1) then bif within x2 x.length then bif c2 then bif decide (x2 = IntKind.i64.wrap (S1 c1.length - 1)) then (P7 fu x x1 w c1 c2 n (IntKind.i64.wrap (x2 + 1)) w2 y k0) else bif w2 then (P7 fu x x1 w c1 c2 n (IntKind.i64.wrap (x2 + 1)) true y k0) else bif decide ((cell 0 (elem x2.toNat x)).toInt < 0) then (P7 fu x x1 w c1 c2 n (IntKind.i64.wrap (x2 + 1)) true y k0) else bif decide (5 <= (cell 0 (elem x2.toNat x)).toInt) then (P7 fu x x1 w c1 c2 n (IntKind.i64.wrap (x2 + 1)) true y k0) else bif within (cell 0 (elem x2.toNat x)).toInt y.length then R7 (elem (cell 0 (elem x2.toNat x)).toInt.toNat y) fun Z0 => F16 fu (cell 0 Z0).toInt (cell 1 Z0).toInt (cell 2 Z0).C0 (cell 3 Z0).toBool (cell 4 Z0).C0 (cell 5 Z0).toBool (cell 6 Z0).toInt (cell 7 Z0).toInt (cell 8 Z0).toInt (cell 9 Z0).toInt (cell 10 Z0).toBool (cell 11 Z0).toInt (S7 (setAt y (cell 0 (elem x2.toNat x)).toInt.toNat [D.int (cell 0 Z0).toInt, D.int (cell 1 Z0).toInt, D.row (cell 2 Z0).C0, D.bool (cell 3 Z0).toBool, D.row (cell 4 Z0).C0, D.bool (cell 5 Z0).toBool, D.int (cell 6 Z0).toInt, D.int (cell 7 Z0).toInt, D.int (cell 8 Z0).toInt, D.int (cell 9 Z0).toInt, D.bool (cell 10 Z0).toBool, D.int (cell 11 Z0).toInt]) fun Yz => F18 fu (cell 4 Z0).C0 w fun J2 => (P7 fu x x1 w c1 c2 n (IntKind.i64.wrap (x2 + 1)) (!J2) Yz k0)) else none else bif w2 then (P7 fu x x1 w c1 c2 n (IntKind.i64.wrap (x2 + 1)) true y k0) else bif decide ((cell 0 (elem x2.toNat x)).toInt < 0) then (P7 fu x x1 w c1 c2 n (IntKind.i64.wrap (x2 + 1)) true y k0) else bif decide (5 <= (cell 0 (elem x2.toNat x)).toInt) then (P7 fu x x1 w c1 c2 n (IntKind.i64.wrap (x2 + 1)) true y k0) else bif within (cell 0 (elem x2.toNat x)).toInt y.length then R7 (elem (cell 0 (elem x2.toNat x)).toInt.toNat y) fun Z3 => F16 fu (cell 0 Z3).toInt (cell 1 Z3).toInt (cell 2 Z3).C0 (cell 3 Z3).toBool (cell 4 Z3).C0 (cell 5 Z3).toBool (cell 6 Z3).toInt (cell 7 Z3).toInt (cell 8 Z3).toInt (cell 9 Z3).toInt (cell 10 Z3).toBool (cell 11 Z3).toInt (S7 (setAt y (cell 0 (elem x2.toNat x)).toInt.toNat [D.int (cell 0 Z3).toInt, D.int (cell 1 Z3).toInt, D.row (cell 2 Z3).C0, D.bool (cell 3 Z3).toBool, D.row (cell 4 Z3).C0, D.bool (cell 5 Z3).toBool, D.int (cell 6 Z3).toInt, D.int (cell 7 Z3).toInt, D.int (cell 8 Z3).toInt, D.int (cell 9 Z3).toInt, D.bool (cell 10 Z3).toBool, D.int (cell 11 Z3).toInt]) fun yH => F18 fu (cell 4 Z3).C0 w fun G5 => (P7 fu x x1 w c1 c2 n (IntKind.i64.wrap (x2 + 1)) (!G5) yH k0)) else none else none else (k0 w2 y)
def Mj (fu n : Nat) : M1 := fun _ e s K => match e, s with
 | [.ptr 0 0, .ptr 6 0, .fz U4 x false, .int .i64 x1, .int .i64 x2], [.obj [.X0 1, .ptr 2 0, .own 3, .own 4, .fz C6 w false, .int .i64 w1, .bool w2], .p0 Ag y none, .obj [.map 5], .row Cj y1, .row Ci y2, .map (.int .i64) true OP y3, .obj [.int .i64 c, .fz pG c1 false, .bool c2]] => (match FT.F0 U4 X1 with | true => (match FT.F0 C6 D1 with | true => (match FT.F0 Ag G4 with | true => (match FT.F0 Cj P1 with | true => (match FT.F0 Ci L2 with | true => (match FT.F0 OP P1 with | true => (match FT.F0 pG X1 with | true => P7 fu x x1 w c1 c2 n x2 w2 y (fun o_ N1 => K (.exit 2) (I0 (D0 0 0x0) []) [.obj [.X0 1, .ptr 2 0, .own 3, .own 4, .fz D1 (w) false, .int .i64 (w1), .bool o_], .p0 G4 N1 none, .obj [.map 5], .row P1 (y1), .row L2 (y2), .map (.int .i64) true P1 (y3)]) | false => none) | false => none) | false => none) | false => none) | false => none) | false => none) | false => none)
 | _, _ => none
def WZ (fu : Nat) : Nat -> Option M1 := fun _ => none
theorem nA (fu n : Nat) (R : Type) (K : Y2 -> R1 -> O0 -> Option R) (x : List (List D)) (x1 x2 : Int) (w : List (List D)) (w1 : Int) (w2 : Bool) (y y1 y2 : List (List D)) (y3 : List (D × List D)) (c : Int) (c1 : List (List D)) (c2 : Bool) :
  P7 fu x x1 w c1 c2 (n + 1) x2 w2 y (fun o_ N1 => K (.exit 2) (I0 (D0 0 0x0) []) [.obj [.X0 1, .ptr 2 0, .own 3, .own 4, .fz D1 (w) false, .int .i64 (w1), .bool o_], .p0 G4 N1 none, .obj [.map 5], .row P1 (y1), .row L2 (y2), .map (.int .i64) true P1 (y3)]) = n4 Try.prog (Uk fu) 300 (WZ fu) 60 (V1 (N0 Bg 30)) (I0 (D0 88 0xe000000000000000000081) [.ptr 0 0, .ptr 6 0, .fz X1 x false, .int .i64 x1, .int .i64 x2]) [.obj [.X0 1, .ptr 2 0, .own 3, .own 4, .fz D1 w false, .int .i64 w1, .bool w2], .p0 G4 y none, .obj [.map 5], .row P1 y1, .row L2 y2, .map (.int .i64) true P1 y3, .obj [.int .i64 c, .fz X1 c1 false, .bool c2]] (BU 6 [.live (D0 88 0xe000000000000000000081), .V9 85 [] X1, .gc, .S3 6 1 X1, .gc] [.live (D0 0 0), .gc] (E8 (D0 88 0xe000000000000000000081) (Mj fu n)) K) := by kernel_rfl
theorem kz (fu : Nat) : R0 Try.prog 6 Bg (WZ fu) := R0.none _ _ _
theorem kc (fu : Nat) : ∀ n, l4 Try.prog 6 (.loop (V1 (N0 Bg 30))) (E8 (D0 88 0xe000000000000000000081) (Mj fu n)) := by
 refine H4 (gin := [.live (D0 88 0xe000000000000000000081), .V9 85 [] X1, .gc, .S3 6 1 X1, .gc]) (gout := [.live (D0 0 0), .gc]) (k := 300) (Dw fu) (kz fu) (by decide) eL (fun R e s K => ?_) (fun n R e s K r h => ?_)
 ·unfold Mj; repeat' split
  all_goals rfl
 ·unfold Mj at h; split at h
  case h_2 => cases h
  iterate 7 (split at h; (case h_2 => cases h); rename_i hq; have hq := FT.J0 _ _ hq; subst hq)
  exact (nA fu n R K _ _ _ _ _ _ _ _ _ _ _ _ _).symm.trans h
def nc {R : Type} (fu : Nat) (AG AD AE AA : List (List D)) (AB : Int) (AC : Bool) (AF : List (D × List D)) (k0 : (List (List D)) -> Bool -> (List (List D)) -> Option R) : Option R :=
 BB fu (S1 AG.length) fu 0 AA AC AG (fun u3 N1 => (k0 u3 true N1)) fun J2 B3 A4 => F50 fu 0 AF fun G5 Y5 => P7 fu (cell 1 G5).C0 (S1 (cell 1 G5).C0.length) J2 (cell 1 G5).C0 (cell 2 G5).toBool fu 0 B3 A4 fun B9 W8 => (k0 J2 B9 W8)
def F39 {R : Type} := shut (@nc R)
theorem fA {R : Type} (fu : Nat) (AG AD AE AA : List (List D)) (AB : Int) (AC : Bool) (AF : List (D × List D)) (k0 : (List (List D)) -> Bool -> (List (List D)) -> Option R) : F39 fu AG AD AE AA AB AC AF k0 = nc fu AG AD AE AA AB AC AF k0 := by unfold F39; rw [O2]
def gZ (fu : Nat) : Nat -> Option M1 := fun p => match Nat.beq p 10 with | true => some (Ie 6 [.live (D0 17 0x1c001), .gc] (E8 (D0 17 0x1c001) (Mk fu fu))) | false => match Nat.beq p 30 with | true => some (Ie 6 [.live (D0 88 0xe000000000000000000081), .V9 85 [] X1, .gc, .S3 6 1 X1, .gc] (E8 (D0 88 0xe000000000000000000081) (Mj fu fu))) | false => none
def t39 (fu : Nat) : J1 := fun _ args s K => match args, s with
 | [.ptr 0 0], [.obj [.X0 1, .ptr 2 0, .own 3, .own 4, .fz U4 AA false, .int .i64 AB, .bool AC], .p0 C6 AG none, .obj [.map 5], .row Ag AD, .row Cj AE, .map (.int .i64) true Ci AF] => (match FT.F0 U4 D1 with | true => (match FT.F0 C6 G4 with | true => (match FT.F0 Ag P1 with | true => (match FT.F0 Cj L2 with | true => (match FT.F0 Ci P1 with | true => F39 fu AG AD AE AA AB AC AF (fun o_ N1 J2 => K (.tuple []) [.obj [.X0 1, .ptr 2 0, .own 3, .own 4, .fz D1 o_ false, .int .i64 (AB), .bool N1], .p0 G4 J2 none, .obj [.map 5], .row P1 (AD), .row L2 (AE), .map (.int .i64) true P1 (AF)]) | false => none) | false => none) | false => none) | false => none) | false => none)
 | _, _ => none
theorem e39 (R : Type) (K : UV -> O0 -> Option R) (fu : Nat) (AG AD AE AA : List (List D)) (AB : Int) (AC : Bool) (AF : List (D × List D)) :
  F39 fu AG AD AE AA AB AC AF (fun o_ N1 J2 => K (.tuple []) [.obj [.X0 1, .ptr 2 0, .own 3, .own 4, .fz D1 o_ false, .int .i64 (AB), .bool N1], .p0 G4 J2 none, .obj [.map 5], .row P1 (AD), .row L2 (AE), .map (.int .i64) true P1 (AF)]) = I6 Try.prog ⟨(Uk fu), gZ fu⟩ 300 39 [.ptr 0 0] [.obj [.X0 1, .ptr 2 0, .own 3, .own 4, .fz D1 AA false, .int .i64 AB, .bool AC], .p0 G4 AG none, .obj [.map 5], .row P1 AD, .row L2 AE, .map (.int .i64) true P1 AF] (W6 6 [.gc, .X3 0 2 P1, .X3 0 3 L2, .S3 0 4 D1, .gc] K) := (fA fu _ _ _ _ _ _ _ _).trans (by kernel_rfl)
theorem s39 (fu : Nat) : N3 Try.prog 39 (t39 fu) := by
 refine y0 (T := ⟨(Uk fu), gZ fu⟩) (m := 6) (gout := [.gc, .X3 0 2 P1, .X3 0 3 L2, .S3 0 4 D1, .gc]) (k := 300) (Dw fu) (fun fn body hf hb => ?_) (fun R args s K r h => ?_) (fun R args s K r h => ?_)
 ·have hc : body = Bg := by
   have h1 : Try.prog.funcs[39]? = some Try.f39 := rfl
   rw [h1] at hf; cases hf
   have h2 : Try.f39.body = some Bg := rfl
   rw [h2] at hb; cases hb; rfl
  subst hc
  exact fun p told h b hb => by
   replace h : gZ fu p = some told := h
   unfold gZ at h
   split at h
   ·rename_i hp
    cases h
    have := B6 hp
    subst this
    rw [eM] at hb
    cases hb
    exact C3 (ke fu _)
   ·
    split at h
    ·rename_i hp
     cases h
     have := B6 hp
     subst this
     rw [eL] at hb
     cases hb
     exact C3 (kc fu _)
    ·
     cases h

 ·unfold t39 at h; split at h
  ·rfl
  ·cases h
 ·unfold t39 at h; split at h
  case h_2 => cases h
  iterate 5 (split at h; (case h_2 => cases h); rename_i hq; have hq := FT.J0 _ _ hq; subst hq)
  exact (e39 R K fu _ _ _ _ _ _ _).symm.trans h
def kW (fu : Nat) : FuncId -> Option (Bool × J1) := fun f => match Nat.beq f 39 with
 | true => some (false, CA [.gc, .FN 0 0 G4, .X3 0 2 P1, .X3 0 3 L2, .S3 0 4 D1, .gc] (t39 fu))
 | false => (Uk fu) f
theorem Uj (fu : Nat) : C2 Try.prog (kW fu) := by
 intro f own told h
 unfold kW at h
 split at h
 ·rename_i hb
  cases h
  have := B6 hb
  subst this
  exact O1 (s39 fu)
 ·exact (Dw fu) f own told h
end Go.Proofs.Ythlbahcggmbfaaa.V
end
noncomputable section
namespace Go.Proofs.Ythlbahcggmbfaaa.V
set_option maxRecDepth 100000
set_option maxHeartbeats 4000000
def XJ : Code := match Try.f35.body with | some c => c | none => .skip
def Xd {R : Type} (fu : Nat) (o_ : List D) (X4 : List (D × List D)) (k0 : Int -> (List (D × List D)) -> Option R) : Option R :=
 bif decide ((cell 0 o_).toInt < 0) then (k0 1 X4) else bif decide (3 < (cell 0 o_).toInt) then (k0 1 X4) else bif decide ((cell 1 o_).toInt < 0) then (k0 1 X4) else bif decide (10 <= (cell 1 o_).toInt) then (k0 1 X4) else bif decide ((cell 0 o_).toInt = 0) then bif JN X4 (D.int (cell 1 o_).toInt) then (k0 7 X4) else F56 fu (cell 4 o_).C0 fun u3 => bif !u3 then (k0 1 X4) else bif fits (cell 4 o_).C0.length 8 then (k0 0 (CQ X4 (D.int (cell 1 o_).toInt) [D.int 1, D.row (cell 4 o_).C0, D.bool false])) else none else bif fits (cell 1 (W3 X4 (D.int (cell 1 o_).toInt) [D.int 0, D.nil, D.bool false])).C0.length 8 then bif !JN X4 (D.int (cell 1 o_).toInt) then (k0 6 X4) else bif !decide ((cell 0 (W3 X4 (D.int (cell 1 o_).toInt) [D.int 0, D.nil, D.bool false])).toInt = (cell 2 o_).toInt) then (k0 11 X4) else bif decide ((cell 0 o_).toInt = 1) then F22 fu [D.int (cell 0 (W3 X4 (D.int (cell 1 o_).toInt) [D.int 0, D.nil, D.bool false])).toInt, D.row (cell 1 (W3 X4 (D.int (cell 1 o_).toInt) [D.int 0, D.nil, D.bool false])).C0, D.bool (cell 2 (W3 X4 (D.int (cell 1 o_).toInt) [D.int 0, D.nil, D.bool false])).toBool] (cell 3 o_).toInt fun N1 => bif decide (N1 < 0) then (k0 6 X4) else bif (cell 2 (W3 X4 (D.int (cell 1 o_).toInt) [D.int 0, D.nil, D.bool false])).toBool then bif (cell 2 (W3 X4 (D.int (cell 1 o_).toInt) [D.int 0, D.nil, D.bool false])).toBool then bif !decide (N1 = IntKind.i64.wrap (S1 (cell 1 (W3 X4 (D.int (cell 1 o_).toInt) [D.int 0, D.nil, D.bool false])).C0.length - 1)) then bif decide (IntKind.i64.wrap (S1 (cell 1 (W3 X4 (D.int (cell 1 o_).toInt) [D.int 0, D.nil, D.bool false])).C0.length - 1) < 2) then (k0 9 X4) else bif Fp (cell 1 (W3 X4 (D.int (cell 1 o_).toInt) [D.int 0, D.nil, D.bool false])).C0 N1 (IntKind.i64.wrap (N1 + 1)) then bif (cell 2 (W3 X4 (D.int (cell 1 o_).toInt) [D.int 0, D.nil, D.bool false])).toBool then (k0 0 (CQ X4 (D.int (cell 1 o_).toInt) [D.int (IntKind.i64.wrap ((cell 0 (W3 X4 (D.int (cell 1 o_).toInt) [D.int 0, D.nil, D.bool false])).toInt + 1)), D.row (v7 (cell 1 (W3 X4 (D.int (cell 1 o_).toInt) [D.int 0, D.nil, D.bool false])).C0 N1.toNat (IntKind.i64.wrap (N1 + 1)).toNat), D.bool !decide (N1 = IntKind.i64.wrap (S1 (cell 1 (W3 X4 (D.int (cell 1 o_).toInt) [D.int 0, D.nil, D.bool false])).C0.length - 1))])) else (k0 0 (CQ X4 (D.int (cell 1 o_).toInt) [D.int (IntKind.i64.wrap ((cell 0 (W3 X4 (D.int (cell 1 o_).toInt) [D.int 0, D.nil, D.bool false])).toInt + 1)), D.row (v7 (cell 1 (W3 X4 (D.int (cell 1 o_).toInt) [D.int 0, D.nil, D.bool false])).C0 N1.toNat (IntKind.i64.wrap (N1 + 1)).toNat), D.bool false])) else none else bif Fp (cell 1 (W3 X4 (D.int (cell 1 o_).toInt) [D.int 0, D.nil, D.bool false])).C0 N1 (IntKind.i64.wrap (N1 + 1)) then bif (cell 2 (W3 X4 (D.int (cell 1 o_).toInt) [D.int 0, D.nil, D.bool false])).toBool then (k0 0 (CQ X4 (D.int (cell 1 o_).toInt) [D.int (IntKind.i64.wrap ((cell 0 (W3 X4 (D.int (cell 1 o_).toInt) [D.int 0, D.nil, D.bool false])).toInt + 1)), D.row (v7 (cell 1 (W3 X4 (D.int (cell 1 o_).toInt) [D.int 0, D.nil, D.bool false])).C0 N1.toNat (IntKind.i64.wrap (N1 + 1)).toNat), D.bool !decide (N1 = IntKind.i64.wrap (S1 (cell 1 (W3 X4 (D.int (cell 1 o_).toInt) [D.int 0, D.nil, D.bool false])).C0.length - 1))])) else (k0 0 (CQ X4 (D.int (cell 1 o_).toInt) [D.int (IntKind.i64.wrap ((cell 0 (W3 X4 (D.int (cell 1 o_).toInt) [D.int 0, D.nil, D.bool false])).toInt + 1)), D.row (v7 (cell 1 (W3 X4 (D.int (cell 1 o_).toInt) [D.int 0, D.nil, D.bool false])).C0 N1.toNat (IntKind.i64.wrap (N1 + 1)).toNat), D.bool false])) else none else bif !decide (N1 = IntKind.i64.wrap (S1 (cell 1 (W3 X4 (D.int (cell 1 o_).toInt) [D.int 0, D.nil, D.bool false])).C0.length - 1)) then bif decide (S1 (cell 1 (W3 X4 (D.int (cell 1 o_).toInt) [D.int 0, D.nil, D.bool false])).C0.length < 2) then (k0 9 X4) else bif Fp (cell 1 (W3 X4 (D.int (cell 1 o_).toInt) [D.int 0, D.nil, D.bool false])).C0 N1 (IntKind.i64.wrap (N1 + 1)) then bif (cell 2 (W3 X4 (D.int (cell 1 o_).toInt) [D.int 0, D.nil, D.bool false])).toBool then (k0 0 (CQ X4 (D.int (cell 1 o_).toInt) [D.int (IntKind.i64.wrap ((cell 0 (W3 X4 (D.int (cell 1 o_).toInt) [D.int 0, D.nil, D.bool false])).toInt + 1)), D.row (v7 (cell 1 (W3 X4 (D.int (cell 1 o_).toInt) [D.int 0, D.nil, D.bool false])).C0 N1.toNat (IntKind.i64.wrap (N1 + 1)).toNat), D.bool !decide (N1 = IntKind.i64.wrap (S1 (cell 1 (W3 X4 (D.int (cell 1 o_).toInt) [D.int 0, D.nil, D.bool false])).C0.length - 1))])) else (k0 0 (CQ X4 (D.int (cell 1 o_).toInt) [D.int (IntKind.i64.wrap ((cell 0 (W3 X4 (D.int (cell 1 o_).toInt) [D.int 0, D.nil, D.bool false])).toInt + 1)), D.row (v7 (cell 1 (W3 X4 (D.int (cell 1 o_).toInt) [D.int 0, D.nil, D.bool false])).C0 N1.toNat (IntKind.i64.wrap (N1 + 1)).toNat), D.bool false])) else none else bif Fp (cell 1 (W3 X4 (D.int (cell 1 o_).toInt) [D.int 0, D.nil, D.bool false])).C0 N1 (IntKind.i64.wrap (N1 + 1)) then bif (cell 2 (W3 X4 (D.int (cell 1 o_).toInt) [D.int 0, D.nil, D.bool false])).toBool then (k0 0 (CQ X4 (D.int (cell 1 o_).toInt) [D.int (IntKind.i64.wrap ((cell 0 (W3 X4 (D.int (cell 1 o_).toInt) [D.int 0, D.nil, D.bool false])).toInt + 1)), D.row (v7 (cell 1 (W3 X4 (D.int (cell 1 o_).toInt) [D.int 0, D.nil, D.bool false])).C0 N1.toNat (IntKind.i64.wrap (N1 + 1)).toNat), D.bool !decide (N1 = IntKind.i64.wrap (S1 (cell 1 (W3 X4 (D.int (cell 1 o_).toInt) [D.int 0, D.nil, D.bool false])).C0.length - 1))])) else (k0 0 (CQ X4 (D.int (cell 1 o_).toInt) [D.int (IntKind.i64.wrap ((cell 0 (W3 X4 (D.int (cell 1 o_).toInt) [D.int 0, D.nil, D.bool false])).toInt + 1)), D.row (v7 (cell 1 (W3 X4 (D.int (cell 1 o_).toInt) [D.int 0, D.nil, D.bool false])).C0 N1.toNat (IntKind.i64.wrap (N1 + 1)).toNat), D.bool false])) else none else bif (cell 2 (W3 X4 (D.int (cell 1 o_).toInt) [D.int 0, D.nil, D.bool false])).toBool then bif decide (IntKind.i64.wrap (S1 (cell 1 (W3 X4 (D.int (cell 1 o_).toInt) [D.int 0, D.nil, D.bool false])).C0.length - 1) < 2) then (k0 9 X4) else bif Fp (cell 1 (W3 X4 (D.int (cell 1 o_).toInt) [D.int 0, D.nil, D.bool false])).C0 N1 (IntKind.i64.wrap (N1 + 1)) then bif (cell 2 (W3 X4 (D.int (cell 1 o_).toInt) [D.int 0, D.nil, D.bool false])).toBool then (k0 0 (CQ X4 (D.int (cell 1 o_).toInt) [D.int (IntKind.i64.wrap ((cell 0 (W3 X4 (D.int (cell 1 o_).toInt) [D.int 0, D.nil, D.bool false])).toInt + 1)), D.row (v7 (cell 1 (W3 X4 (D.int (cell 1 o_).toInt) [D.int 0, D.nil, D.bool false])).C0 N1.toNat (IntKind.i64.wrap (N1 + 1)).toNat), D.bool true])) else (k0 0 (CQ X4 (D.int (cell 1 o_).toInt) [D.int (IntKind.i64.wrap ((cell 0 (W3 X4 (D.int (cell 1 o_).toInt) [D.int 0, D.nil, D.bool false])).toInt + 1)), D.row (v7 (cell 1 (W3 X4 (D.int (cell 1 o_).toInt) [D.int 0, D.nil, D.bool false])).C0 N1.toNat (IntKind.i64.wrap (N1 + 1)).toNat), D.bool false])) else none else bif decide (S1 (cell 1 (W3 X4 (D.int (cell 1 o_).toInt) [D.int 0, D.nil, D.bool false])).C0.length < 2) then (k0 9 X4) else bif Fp (cell 1 (W3 X4 (D.int (cell 1 o_).toInt) [D.int 0, D.nil, D.bool false])).C0 N1 (IntKind.i64.wrap (N1 + 1)) then bif (cell 2 (W3 X4 (D.int (cell 1 o_).toInt) [D.int 0, D.nil, D.bool false])).toBool then (k0 0 (CQ X4 (D.int (cell 1 o_).toInt) [D.int (IntKind.i64.wrap ((cell 0 (W3 X4 (D.int (cell 1 o_).toInt) [D.int 0, D.nil, D.bool false])).toInt + 1)), D.row (v7 (cell 1 (W3 X4 (D.int (cell 1 o_).toInt) [D.int 0, D.nil, D.bool false])).C0 N1.toNat (IntKind.i64.wrap (N1 + 1)).toNat), D.bool true])) else (k0 0 (CQ X4 (D.int (cell 1 o_).toInt) [D.int (IntKind.i64.wrap ((cell 0 (W3 X4 (D.int (cell 1 o_).toInt) [D.int 0, D.nil, D.bool false])).toInt + 1)), D.row (v7 (cell 1 (W3 X4 (D.int (cell 1 o_).toInt) [D.int 0, D.nil, D.bool false])).C0 N1.toNat (IntKind.i64.wrap (N1 + 1)).toNat), D.bool false])) else none else bif decide ((cell 0 o_).toInt = 2) then F59 fu (cell 3 o_).toInt fun J2 => bif !J2 then (k0 1 X4) else F22 fu [D.int (cell 0 (W3 X4 (D.int (cell 1 o_).toInt) [D.int 0, D.nil, D.bool false])).toInt, D.row (cell 1 (W3 X4 (D.int (cell 1 o_).toInt) [D.int 0, D.nil, D.bool false])).C0, D.bool (cell 2 (W3 X4 (D.int (cell 1 o_).toInt) [D.int 0, D.nil, D.bool false])).toBool] (cell 3 o_).toInt fun B3 => bif decide (0 <= B3) then (k0 7 X4) else bif (cell 2 (W3 X4 (D.int (cell 1 o_).toInt) [D.int 0, D.nil, D.bool false])).toBool then (k0 9 X4) else bif decide (7 <= S1 (cell 1 (W3 X4 (D.int (cell 1 o_).toInt) [D.int 0, D.nil, D.bool false])).C0.length) then (k0 9 X4) else bif fits ((cell 1 (W3 X4 (D.int (cell 1 o_).toInt) [D.int 0, D.nil, D.bool false])).C0.length + 1) 8 then (k0 0 (CQ X4 (D.int (cell 1 o_).toInt) [D.int (IntKind.i64.wrap ((cell 0 (W3 X4 (D.int (cell 1 o_).toInt) [D.int 0, D.nil, D.bool false])).toInt + 1)), D.row ((cell 1 (W3 X4 (D.int (cell 1 o_).toInt) [D.int 0, D.nil, D.bool false])).C0 ++ [[D.int (cell 3 o_).toInt]]), D.bool true])) else none else bif !(cell 2 (W3 X4 (D.int (cell 1 o_).toInt) [D.int 0, D.nil, D.bool false])).toBool then (k0 9 X4) else F22 fu [D.int (cell 0 (W3 X4 (D.int (cell 1 o_).toInt) [D.int 0, D.nil, D.bool false])).toInt, D.row (cell 1 (W3 X4 (D.int (cell 1 o_).toInt) [D.int 0, D.nil, D.bool false])).C0, D.bool (cell 2 (W3 X4 (D.int (cell 1 o_).toInt) [D.int 0, D.nil, D.bool false])).toBool] (cell 3 o_).toInt fun A4 => bif !decide (A4 = IntKind.i64.wrap (S1 (cell 1 (W3 X4 (D.int (cell 1 o_).toInt) [D.int 0, D.nil, D.bool false])).C0.length - 1)) then (k0 9 X4) else (k0 0 (CQ X4 (D.int (cell 1 o_).toInt) [D.int (cell 0 (W3 X4 (D.int (cell 1 o_).toInt) [D.int 0, D.nil, D.bool false])).toInt, D.row (cell 1 (W3 X4 (D.int (cell 1 o_).toInt) [D.int 0, D.nil, D.bool false])).C0, D.bool false])) else none
def Ra {R : Type} := shut (@Xd R)
theorem RZ {R : Type} (fu : Nat) (o_ : List D) (X4 : List (D × List D)) (k0 : Int -> (List (D × List D)) -> Option R) : Ra fu o_ X4 k0 = Xd fu o_ X4 k0 := by unfold Ra; rw [O2]
def jX (fu : Nat) : Nat -> Option M1 := fun _ => none
def gI (fu : Nat) : J1 := fun _ args s K => match args, s with
 | [.ptr 0 0, .agg [.int .i64 q, .int .i64 q1, .int .i64 q2, .int .i64 q3, .fz U4 q4 false]], [.obj [.map 1], .map (.int .i64) true C6 X4] => (match FT.F0 U4 X1 with | true => (match FT.F0 C6 P1 with | true => Ra fu [D.int q, D.int q1, D.int q2, D.int q3, D.row q4] X4 (fun o_ N1 => K (.int .i64 o_) [.obj [.map 1], .map (.int .i64) true P1 N1]) | false => none) | false => none)
 | _, _ => none
theorem vO (R : Type) (K : UV -> O0 -> Option R) (fu : Nat) (q q1 q2 q3 : Int) (q4 : List (List D)) (X4 : List (D × List D)) :
  Ra fu [D.int q, D.int q1, D.int q2, D.int q3, D.row q4] X4 (fun o_ N1 => K (.int .i64 o_) [.obj [.map 1], .map (.int .i64) true P1 N1]) = I6 Try.prog ⟨(Ui fu), jX fu⟩ 300 35 [.ptr 0 0, .agg [.int .i64 q, .int .i64 q1, .int .i64 q2, .int .i64 q3, .fz X1 q4 false]] [.obj [.map 1], .map (.int .i64) true P1 X4] (W6 2 [.gc] K) := (RZ fu _ _ _).trans (by kernel_rfl)
theorem sx (fu : Nat) : N3 Try.prog 35 (gI fu) := by
 refine y0 (T := ⟨(Ui fu), jX fu⟩) (m := 2) (gout := [.gc]) (k := 300) (HI fu) (fun fn body hf hb => ?_) (fun R args s K r h => ?_) (fun R args s K r h => ?_)
 ·have hc : body = XJ := by
   have h1 : Try.prog.funcs[35]? = some Try.f35 := rfl
   rw [h1] at hf; cases hf
   have h2 : Try.f35.body = some XJ := rfl
   rw [h2] at hb; cases hb; rfl
  subst hc
  exact R0.none _ _ _
 ·unfold gI at h; split at h
  ·rfl
  ·cases h
 ·unfold gI at h; split at h
  case h_2 => cases h
  iterate 2 (split at h; (case h_2 => cases h); rename_i hq; have hq := FT.J0 _ _ hq; subst hq)
  exact (vO R K fu _ _ _ _ _ _).symm.trans h
def SA (fu : Nat) : FuncId -> Option (Bool × J1) := fun f => match Nat.beq f 35 with
 | true => some (false, CA [.V9 1 [4] X1, .gc, .gc] (gI fu))
 | false => (kW fu) f
theorem KA (fu : Nat) : C2 Try.prog (SA fu) := by
 intro f own told h
 unfold SA at h
 split at h
 ·rename_i hb
  cases h
  have := B6 hb
  subst this
  exact O1 (sx fu)
 ·exact (Uj fu) f own told h
end Go.Proofs.Ythlbahcggmbfaaa.V
end
noncomputable section
namespace Go.Proofs.Ythlbahcggmbfaaa.V
set_option maxRecDepth 100000
set_option maxHeartbeats 4000000
def XI : Code := match Try.f38.body with | some c => c | none => .skip
def eX {R : Type} (fu : Nat) (kind Ii node : Int) (AG AD AE AA : List (List D)) (AB : Int) (AC : Bool) (AF : List (D × List D)) (k0 : (List (D × List D)) -> (List (List D)) -> Option R) (k1 : (List (D × List D)) -> Option R) : Option R :=
 Ra fu [D.int kind, D.int 0, D.int Ii, D.int node, D.row []] AF fun u3 N1 => bif decide (u3 = 0) then F36 fu AG AD AE AA AB AC N1 fun J2 => (k0 N1 J2) else (k1 N1)
def RY {R : Type} := shut (@eX R)
theorem Xe {R : Type} (fu : Nat) (kind Ii node : Int) (AG AD AE AA : List (List D)) (AB : Int) (AC : Bool) (AF : List (D × List D)) (k0 : (List (D × List D)) -> (List (List D)) -> Option R) (k1 : (List (D × List D)) -> Option R) : RY fu kind Ii node AG AD AE AA AB AC AF k0 k1 = eX fu kind Ii node AG AD AE AA AB AC AF k0 k1 := by unfold RY; rw [O2]
def jW (fu : Nat) : Nat -> Option M1 := fun _ => none
def gH (fu : Nat) : J1 := fun _ args s K => match args, s with
 | [.ptr 0 0, .int .i64 kind, .int .i64 Ii, .int .i64 node], [.obj [.X0 1, .ptr 2 0, .own 3, .own 4, .fz U4 AA false, .int .i64 AB, .bool AC], .p0 C6 AG none, .obj [.map 5], .row Ag AD, .row Cj AE, .map (.int .i64) true Ci AF] => (match FT.F0 U4 D1 with | true => (match FT.F0 C6 G4 with | true => (match FT.F0 Ag P1 with | true => (match FT.F0 Cj L2 with | true => (match FT.F0 Ci P1 with | true => RY fu kind Ii node AG AD AE AA AB AC AF (fun o_ N1 => K (.tuple []) [.obj [.X0 1, .ptr 2 0, .own 6, .own 4, .fz D1 (AA) false, .int .i64 (AB), .bool (AC)], .p0 G4 (AG) none, .obj [.map 5], .gone, .row L2 (AE), .map (.int .i64) true P1 o_, .row P1 N1]) (fun o_ => K (.tuple []) [.obj [.X0 1, .ptr 2 0, .own 3, .own 4, .fz D1 (AA) false, .int .i64 (AB), .bool (AC)], .p0 G4 (AG) none, .obj [.map 5], .row P1 (AD), .row L2 (AE), .map (.int .i64) true P1 o_]) | false => none) | false => none) | false => none) | false => none) | false => none)
 | _, _ => none
theorem vN (R : Type) (K : UV -> O0 -> Option R) (fu : Nat) (kind Ii node : Int) (AG AD AE AA : List (List D)) (AB : Int) (AC : Bool) (AF : List (D × List D)) :
  RY fu kind Ii node AG AD AE AA AB AC AF (fun o_ N1 => K (.tuple []) [.obj [.X0 1, .ptr 2 0, .own 6, .own 4, .fz D1 (AA) false, .int .i64 (AB), .bool (AC)], .p0 G4 (AG) none, .obj [.map 5], .gone, .row L2 (AE), .map (.int .i64) true P1 o_, .row P1 N1]) (fun o_ => K (.tuple []) [.obj [.X0 1, .ptr 2 0, .own 3, .own 4, .fz D1 (AA) false, .int .i64 (AB), .bool (AC)], .p0 G4 (AG) none, .obj [.map 5], .row P1 (AD), .row L2 (AE), .map (.int .i64) true P1 o_]) = I6 Try.prog ⟨(SA fu), jW fu⟩ 300 38 [.ptr 0 0, .int .i64 kind, .int .i64 Ii, .int .i64 node] [.obj [.X0 1, .ptr 2 0, .own 3, .own 4, .fz D1 AA false, .int .i64 AB, .bool AC], .p0 G4 AG none, .obj [.map 5], .row P1 AD, .row L2 AE, .map (.int .i64) true P1 AF] (W6 6 [.gc, .X3 0 2 P1, .X3 0 3 L2, .S3 0 4 D1, .gc] K) := (Xe fu _ _ _ _ _ _ _ _ _ _ _ _).trans (by kernel_rfl)
theorem sw (fu : Nat) : N3 Try.prog 38 (gH fu) := by
 refine y0 (T := ⟨(SA fu), jW fu⟩) (m := 6) (gout := [.gc, .X3 0 2 P1, .X3 0 3 L2, .S3 0 4 D1, .gc]) (k := 300) (KA fu) (fun fn body hf hb => ?_) (fun R args s K r h => ?_) (fun R args s K r h => ?_)
 ·have hc : body = XI := by
   have h1 : Try.prog.funcs[38]? = some Try.f38 := rfl
   rw [h1] at hf; cases hf
   have h2 : Try.f38.body = some XI := rfl
   rw [h2] at hb; cases hb; rfl
  subst hc
  exact R0.none _ _ _
 ·unfold gH at h; split at h
  ·rfl
  ·cases h
 ·unfold gH at h; split at h
  case h_2 => cases h
  iterate 5 (split at h; (case h_2 => cases h); rename_i hq; have hq := FT.J0 _ _ hq; subst hq)
  exact (vN R K fu _ _ _ _ _ _ _ _ _ _).symm.trans h
def FF (fu : Nat) : FuncId -> Option (Bool × J1) := fun f => match Nat.beq f 38 with
 | true => some (false, CA [.gc, .FN 0 0 G4, .X3 0 2 P1, .X3 0 3 L2, .S3 0 4 D1, .gc] (gH fu))
 | false => (SA fu) f
theorem T7 (fu : Nat) : C2 Try.prog (FF fu) := by
 intro f own told h
 unfold FF at h
 split at h
 ·rename_i hb
  cases h
  have := B6 hb
  subst this
  exact O1 (sw fu)
 ·exact (KA fu) f own told h
end Go.Proofs.Ythlbahcggmbfaaa.V
end
noncomputable section
namespace Go.Proofs.Ythlbahcggmbfaaa.V
set_option maxRecDepth 100000
set_option maxHeartbeats 4000000
abbrev Zg : List FT := [FT.int IntKind.i64, FT.int IntKind.i64, FT.int IntKind.i64]
def S4 : Code := match Try.f13.body with | some c => c | none => .skip
theorem eR : N0 S4 15 = some (G3 (N0 S4 15)) := by kernel_rfl
theorem XU : N0 S4 253 = some (G3 (N0 S4 253)) := by kernel_rfl
def Gb {R : Type} (fu : Nat) (at_ : Int) (x : Bool) (y2 : List (List D)) (Dc : Int) (k0 : Int -> Option R) : Option R :=
 bif x then bif decide (S1 y2.length = 0) then none else (k0 (Dc.tmod (S1 y2.length))) else (k0 at_)
def QJ (fu : Nat) : M1 := fun _ e s K => match e, s with
 | [.ptr 0 0, .ptr 6 0, .int .i64 k_, .pp 1 r, .int .i64 at_, .bool x], [.obj [.X0 1, .ptr 2 0, .own 3, .own 4, .fz U4 w false, .int .i64 w1, .bool w2], .p0 C6 y none, .obj [.map 5], .row Ag y1, .row Cj y2, .map (.int .i64) true Ci y3, .obj [.int .i64 ob, .int .i64 YX, .int .i64 Dc]] => (match FT.F0 U4 D1 with | true => (match FT.F0 C6 G4 with | true => (match FT.F0 Ag P1 with | true => (match FT.F0 Cj L2 with | true => (match FT.F0 Ci P1 with | true => Gb fu at_ x y2 Dc (fun o_ => K .normal (I0 (D0 7 0x79) [.ptr 0 0, .ptr 6 0, .int .i64 (k_), .pp 1 (r), .int .i64 o_]) [.obj [.X0 1, .ptr 2 0, .own 3, .own 4, .fz D1 (w) false, .int .i64 (w1), .bool (w2)], .p0 G4 (y) none, .obj [.map 5], .row P1 (y1), .row L2 (y2), .map (.int .i64) true P1 (y3), .obj [.int .i64 (ob), .int .i64 (YX), .int .i64 (Dc)]]) | false => none) | false => none) | false => none) | false => none) | false => none)
 | _, _ => none
def SX (fu : Nat) : Nat -> Option M1 := fun _ => none
theorem jF (fu : Nat) (R : Type) (K : Y2 -> R1 -> O0 -> Option R) (k_ : Int) (r : Nat) (at_ : Int) (x : Bool) (w : List (List D)) (w1 : Int) (w2 : Bool) (y y1 y2 : List (List D)) (y3 : List (D × List D)) (ob YX Dc : Int) :
  Gb fu at_ x y2 Dc (fun o_ => K .normal (I0 (D0 7 0x79) [.ptr 0 0, .ptr 6 0, .int .i64 (k_), .pp 1 (r), .int .i64 o_]) [.obj [.X0 1, .ptr 2 0, .own 3, .own 4, .fz D1 (w) false, .int .i64 (w1), .bool (w2)], .p0 G4 (y) none, .obj [.map 5], .row P1 (y1), .row L2 (y2), .map (.int .i64) true P1 (y3), .obj [.int .i64 (ob), .int .i64 (YX), .int .i64 (Dc)]]) = n4 Try.prog (FF fu) 300 (SX fu) 253 (G3 (N0 S4 253)) (I0 (D0 38 0x2000000079) [.ptr 0 0, .ptr 6 0, .int .i64 k_, .pp 1 r, .int .i64 at_, .bool x]) [.obj [.X0 1, .ptr 2 0, .own 3, .own 4, .fz D1 w false, .int .i64 w1, .bool w2], .p0 G4 y none, .obj [.map 5], .row P1 y1, .row L2 y2, .map (.int .i64) true P1 y3, .obj [.int .i64 ob, .int .i64 YX, .int .i64 Dc]] (UL 6 [.live (D0 7 0x79), .gc] K) := by kernel_rfl
theorem gx (fu : Nat) : R0 Try.prog 6 S4 (SX fu) := R0.none _ _ _
theorem gN (fu : Nat) : l4 Try.prog 6 (G3 (N0 S4 253)) (E8 (D0 38 0x2000000079) (QJ fu)) := by
 refine J5 (gout := [.live (D0 7 0x79), .gc]) (k := 300) (T7 fu) (gx fu) (by decide) XU (fun R e s K r h => ?_)
 unfold QJ at h; split at h
 case h_2 => cases h
 iterate 5 (split at h; (case h_2 => cases h); rename_i hq; have hq := FT.J0 _ _ hq; subst hq)
 exact (jF fu R K _ _ _ _ _ _ _ _ _ _ _ _ _ _).symm.trans h
theorem XV : N0 S4 127 = some (G3 (N0 S4 127)) := by kernel_rfl
theorem Ps : N0 S4 65375 = some (G3 (N0 S4 65375)) := by kernel_rfl
theorem Ks : N0 S4 8368123 = some (G3 (N0 S4 8368123)) := by kernel_rfl
def Z9 {R : Type} (fu r : Nat) (y y2 : List (List D)) (c : Int) (c1 : List (List D)) (c2 : Bool) (k0 : (List (List D)) -> (List (List D)) -> Option R) : Option R :=
 R7 (elem r y) fun Z0 => F32 fu [D.int c, D.row c1, D.bool c2] (cell 0 Z0).toInt (cell 1 Z0).toInt (cell 2 Z0).C0 (cell 3 Z0).toBool (cell 4 Z0).C0 (cell 5 Z0).toBool (cell 6 Z0).toInt (cell 7 Z0).toInt (cell 8 Z0).toInt (cell 9 Z0).toInt (cell 10 Z0).toBool (cell 11 Z0).toInt fun N1 J2 B3 A4 G5 Y5 B9 W8 R9 Q5 H5 I7 => S7 (setAt y r [D.int (cell 0 Z0).toInt, D.int N1, D.row J2, D.bool B3, D.row A4, D.bool G5, D.int Y5, D.int B9, D.int W8, D.int R9, D.bool Q5, D.int H5]) fun vJ => bif fits (y2.length + I7.length) 72 then (k0 vJ (y2 ++ I7)) else none
def FI (fu : Nat) : M1 := fun _ e s K => match e, s with
 | [.ptr 0 0, .pp 1 r, .ptr 6 0], [.obj [.X0 1, .ptr 2 0, .own 3, .own 4, .fz U4 w false, .int .i64 w1, .bool w2], .p0 C6 y none, .obj [.map 5], .row Ag y1, .row Cj y2, .map (.int .i64) true Ci y3, .obj [.int .i64 c, .fz OP c1 false, .bool c2]] => (match FT.F0 U4 D1 with | true => (match FT.F0 C6 G4 with | true => (match FT.F0 Ag P1 with | true => (match FT.F0 Cj L2 with | true => (match FT.F0 Ci P1 with | true => (match FT.F0 OP X1 with | true => Z9 fu r y y2 c c1 c2 (fun o_ N1 => K .normal (I0 (D0 1 0x1) [.ptr 0 0]) [.obj [.X0 1, .ptr 2 0, .own 3, .own 6, .fz D1 (w) false, .int .i64 (w1), .bool (w2)], .p0 G4 o_ none, .obj [.map 5], .row P1 (y1), .gone, .map (.int .i64) true P1 (y3), .row L2 N1]) | false => none) | false => none) | false => none) | false => none) | false => none) | false => none)
 | _, _ => none
def IP (fu : Nat) : Nat -> Option M1 := fun _ => none
theorem TU (fu : Nat) (R : Type) (K : Y2 -> R1 -> O0 -> Option R) (r : Nat) (w : List (List D)) (w1 : Int) (w2 : Bool) (y y1 y2 : List (List D)) (y3 : List (D × List D)) (c : Int) (c1 : List (List D)) (c2 : Bool) :
  Z9 fu r y y2 c c1 c2 (fun o_ N1 => K .normal (I0 (D0 1 0x1) [.ptr 0 0]) [.obj [.X0 1, .ptr 2 0, .own 3, .own 6, .fz D1 (w) false, .int .i64 (w1), .bool (w2)], .p0 G4 o_ none, .obj [.map 5], .row P1 (y1), .gone, .map (.int .i64) true P1 (y3), .row L2 N1]) = n4 Try.prog (FF fu) 300 (IP fu) 8368123 (G3 (N0 S4 8368123)) (I0 (D0 12 0x821) [.ptr 0 0, .pp 1 r, .ptr 6 0]) [.obj [.X0 1, .ptr 2 0, .own 3, .own 4, .fz D1 w false, .int .i64 w1, .bool w2], .p0 G4 y none, .obj [.map 5], .row P1 y1, .row L2 y2, .map (.int .i64) true P1 y3, .obj [.int .i64 c, .fz X1 c1 false, .bool c2]] (UL 6 [.live (D0 1 0x1), .gc] K) := by kernel_rfl
theorem Sc (fu : Nat) : R0 Try.prog 6 S4 (IP fu) := R0.none _ _ _
theorem SM (fu : Nat) : l4 Try.prog 6 (G3 (N0 S4 8368123)) (E8 (D0 12 0x821) (FI fu)) := by
 refine J5 (gout := [.live (D0 1 0x1), .gc]) (k := 300) (T7 fu) (Sc fu) (by decide) Ks (fun R e s K r h => ?_)
 unfold FI at h; split at h
 case h_2 => cases h
 iterate 6 (split at h; (case h_2 => cases h); rename_i hq; have hq := FT.J0 _ _ hq; subst hq)
 exact (TU fu R K _ _ _ _ _ _ _ _ _ _ _).symm.trans h
def BC {R : Type} (fu : Nat) (k_ : Int) (r : Nat) (at_ x : Int) (x1 : Bool) (w : List (List D)) (w1 : Int) (w2 : Bool) (y y1 y2 : List (List D)) (y3 : List (D × List D)) (ob Dc P3 : Int) (GM : List (List D)) (GL : Bool) (k0 k1 : (List (List D)) -> (List (List D)) -> Option R) (k2 : (List (List D)) -> (List (D × List D)) -> Option R) (k3 : (List (List D)) -> Option R) (k4 : (List (List D)) -> (List (D × List D)) -> (List (List D)) -> Option R) : Option R :=
 bif x1 then bif decide (0 <= at_) then bif decide (ob = 3) then F37 fu at_ (decide (S1 y2.length < 300)) y y1 y2 w w1 w2 y3 (fun u3 N1 => (k0 u3 N1)) (fun J2 B3 => (k1 J2 B3)) ((k2 y y3)) else F37 fu at_ false y y1 y2 w w1 w2 y3 (fun A4 G5 => (k0 A4 G5)) (fun Y5 B9 => (k1 Y5 B9)) ((k2 y y3)) else (k2 y y3) else bif decide (x = 4) then bif decide (0 <= at_) then bif decide ((0 : Int) <= 0 /\ 0 <= at_) && H9 at_ y2.length then bif fits (0 + (part y2 0 at_.toNat).length) 72 then bif decide (0 <= IntKind.i64.wrap (at_ + 1) /\ IntKind.i64.wrap (at_ + 1) <= S1 y2.length) && H9 (S1 y2.length) y2.length then bif fits ((part y2 0 at_.toNat).length + (part y2 (IntKind.i64.wrap (at_ + 1)).toNat (S1 y2.length).toNat).length) 72 then (k0 y (part y2 0 at_.toNat ++ part y2 (IntKind.i64.wrap (at_ + 1)).toNat (S1 y2.length).toNat)) else none else none else none else none else (k2 y y3) else bif decide (x = 5) then bif decide (0 <= Dc) then bif decide (S1 y1.length = 0) then none else bif within (Dc.tmod (S1 y1.length)) y1.length then Z9 fu r y y2 (cell 0 (elem (Dc.tmod (S1 y1.length)).toNat y1)).toInt (cell 1 (elem (Dc.tmod (S1 y1.length)).toNat y1)).C0 (cell 2 (elem (Dc.tmod (S1 y1.length)).toNat y1)).toBool fun W8 R9 => (k1 W8 R9) else none else Z9 fu r y y2 P3 GM GL fun Q5 H5 => (k1 Q5 H5) else bif decide (x = 6) then R7 (elem r y) fun Z12 => F20 fu (cell 0 Z12).toInt (cell 1 Z12).toInt (cell 2 Z12).C0 (cell 3 Z12).toBool (cell 4 Z12).C0 (cell 5 Z12).toBool (cell 6 Z12).toInt (cell 7 Z12).toInt (cell 8 Z12).toInt (cell 9 Z12).toInt (cell 10 Z12).toBool (cell 11 Z12).toInt fun M6 => S7 (setAt y r [D.int (cell 0 Z12).toInt, D.int (cell 1 Z12).toInt, D.row (cell 2 Z12).C0, D.bool (cell 3 Z12).toBool, D.row (cell 4 Z12).C0, D.bool (cell 5 Z12).toBool, D.int (cell 6 Z12).toInt, D.int (cell 7 Z12).toInt, D.int (cell 8 Z12).toInt, D.int (cell 9 Z12).toInt, D.bool (cell 10 Z12).toBool, D.int (cell 11 Z12).toInt]) fun JZ => F29 fu k_ [D.int (cell 0 M6).toInt, D.row (cell 1 M6).C0, D.bool (cell 2 M6).toBool, D.row (cell 3 M6).C0] fun H7 o9 o4 M9 => bif within k_ JZ.length then bif within k_ (setAt JZ k_.toNat [D.int k_, D.int H7, D.row o9, D.bool o4, D.row M9, D.bool false, D.int 0, D.int 0, D.int 0, D.int 0, D.bool false, D.int 0]).length then (k3 (setAt JZ k_.toNat [D.int k_, D.int H7, D.row o9, D.bool o4, D.row M9, D.bool false, D.int 0, D.int 0, D.int 0, D.int 0, D.bool false, D.int 0])) else none else none else bif decide (x = 7) then RY fu 1 P3 k_ y y1 y2 w w1 w2 y3 (fun BS Bm => (k4 y BS Bm)) fun Dd => (k2 y Dd) else bif decide (x = 8) then RY fu 2 P3 k_ y y1 y2 w w1 w2 y3 (fun FV HQ => (k4 y FV HQ)) fun JK => (k2 y JK) else bif decide (x = 9) then R7 (elem r y) fun Z25 => F27 fu (cell 0 Z25).toInt (cell 1 Z25).toInt (cell 2 Z25).C0 (cell 3 Z25).toBool (cell 4 Z25).C0 (cell 5 Z25).toBool (cell 6 Z25).toInt (cell 7 Z25).toInt (cell 8 Z25).toInt (cell 9 Z25).toInt (cell 10 Z25).toBool (cell 11 Z25).toInt fun JJ => S7 (setAt y r [D.int (cell 0 Z25).toInt, D.int (cell 1 Z25).toInt, D.row (cell 2 Z25).C0, D.bool (cell 3 Z25).toBool, D.row (cell 4 Z25).C0, D.bool (cell 5 Z25).toBool, D.int (cell 6 Z25).toInt, D.int (cell 7 Z25).toInt, D.int (cell 8 Z25).toInt, D.int (cell 9 Z25).toInt, D.bool (cell 10 Z25).toBool, D.int (cell 11 Z25).toInt]) fun mf => bif JJ then R7 (elem r mf) fun Z28 => F19 fu (cell 0 Z28).toInt (cell 1 Z28).toInt (cell 2 Z28).C0 (cell 3 Z28).toBool (cell 4 Z28).C0 (cell 5 Z28).toBool (cell 6 Z28).toInt (cell 7 Z28).toInt (cell 8 Z28).toInt (cell 9 Z28).toInt (cell 10 Z28).toBool (cell 11 Z28).toInt (S7 (setAt mf r [D.int (cell 0 Z28).toInt, D.int (cell 1 Z28).toInt, D.row (cell 2 Z28).C0, D.bool (cell 3 Z28).toBool, D.row (cell 4 Z28).C0, D.bool (cell 5 Z28).toBool, D.int (cell 6 Z28).toInt, D.int (cell 7 Z28).toInt, D.int (cell 8 Z28).toInt, D.int (cell 9 Z28).toInt, D.bool (cell 10 Z28).toBool, D.int (cell 11 Z28).toInt]) fun mZ => RY fu 3 (cell 1 Z28).toInt k_ mZ y1 y2 w w1 w2 y3 (fun JI Qh => (k4 mZ JI Qh)) fun NG => (k2 mZ NG)) else (k2 mf y3) else (k2 y y3)
def JB (fu : Nat) : M1 := fun _ e s K => match e, s with
 | [.ptr 0 0, .ptr 6 0, .int .i64 k_, .pp 1 r, .int .i64 at_, .ptr 7 0, .int .i64 x, .bool x1], [.obj [.X0 1, .ptr 2 0, .own 3, .own 4, .fz U4 w false, .int .i64 w1, .bool w2], .p0 C6 y none, .obj [.map 5], .row Ag y1, .row Cj y2, .map (.int .i64) true Ci y3, .obj [.int .i64 ob, .int .i64 YX, .int .i64 Dc], .obj [.int .i64 P3, .fz OP GM false, .bool GL]] => (match FT.F0 U4 D1 with | true => (match FT.F0 C6 G4 with | true => (match FT.F0 Ag P1 with | true => (match FT.F0 Cj L2 with | true => (match FT.F0 Ci P1 with | true => (match FT.F0 OP X1 with | true => BC fu k_ r at_ x x1 w w1 w2 y y1 y2 y3 ob Dc P3 GM GL (fun o_ N1 => K .normal (I0 (D0 1 0x1) [.ptr 0 0]) [.obj [.X0 1, .ptr 2 0, .own 3, .own 6, .fz D1 (w) false, .int .i64 (w1), .bool (w2)], .p0 G4 o_ none, .obj [.map 5], .row P1 (y1), .old L2 (y2), .map (.int .i64) true P1 (y3), .row L2 N1]) (fun o_ N1 => K .normal (I0 (D0 1 0x1) [.ptr 0 0]) [.obj [.X0 1, .ptr 2 0, .own 3, .own 6, .fz D1 (w) false, .int .i64 (w1), .bool (w2)], .p0 G4 o_ none, .obj [.map 5], .row P1 (y1), .gone, .map (.int .i64) true P1 (y3), .row L2 N1]) (fun o_ N1 => K .normal (I0 (D0 1 0x1) [.ptr 0 0]) [.obj [.X0 1, .ptr 2 0, .own 3, .own 4, .fz D1 (w) false, .int .i64 (w1), .bool (w2)], .p0 G4 o_ none, .obj [.map 5], .row P1 (y1), .row L2 (y2), .map (.int .i64) true P1 N1]) (fun o_ => K .normal (I0 (D0 1 0x1) [.ptr 0 0]) [.obj [.X0 6, .ptr 2 0, .own 3, .own 4, .fz D1 (w) false, .int .i64 (w1), .bool (w2)], .gone, .obj [.map 5], .row P1 (y1), .row L2 (y2), .map (.int .i64) true P1 (y3), .p0 G4 o_ none]) (fun o_ N1 J2 => K .normal (I0 (D0 1 0x1) [.ptr 0 0]) [.obj [.X0 1, .ptr 2 0, .own 6, .own 4, .fz D1 (w) false, .int .i64 (w1), .bool (w2)], .p0 G4 o_ none, .obj [.map 5], .gone, .row L2 (y2), .map (.int .i64) true P1 N1, .row P1 J2]) | false => none) | false => none) | false => none) | false => none) | false => none) | false => none)
 | _, _ => none
def EE (fu : Nat) : Nat -> Option M1 := fun p => match Nat.beq p 8368123 with | true => some (Ie 6 [.live (D0 12 0x821), .gc, .S3 6 1 X1, .gc] (E8 (D0 12 0x821) (FI fu))) | false => none
theorem ZE (fu : Nat) (R : Type) (K : Y2 -> R1 -> O0 -> Option R) (k_ : Int) (r : Nat) (at_ x : Int) (x1 : Bool) (w : List (List D)) (w1 : Int) (w2 : Bool) (y y1 y2 : List (List D)) (y3 : List (D × List D)) (ob YX Dc P3 : Int) (GM : List (List D)) (GL : Bool) :
  BC fu k_ r at_ x x1 w w1 w2 y y1 y2 y3 ob Dc P3 GM GL (fun o_ N1 => K .normal (I0 (D0 1 0x1) [.ptr 0 0]) [.obj [.X0 1, .ptr 2 0, .own 3, .own 6, .fz D1 (w) false, .int .i64 (w1), .bool (w2)], .p0 G4 o_ none, .obj [.map 5], .row P1 (y1), .old L2 (y2), .map (.int .i64) true P1 (y3), .row L2 N1]) (fun o_ N1 => K .normal (I0 (D0 1 0x1) [.ptr 0 0]) [.obj [.X0 1, .ptr 2 0, .own 3, .own 6, .fz D1 (w) false, .int .i64 (w1), .bool (w2)], .p0 G4 o_ none, .obj [.map 5], .row P1 (y1), .gone, .map (.int .i64) true P1 (y3), .row L2 N1]) (fun o_ N1 => K .normal (I0 (D0 1 0x1) [.ptr 0 0]) [.obj [.X0 1, .ptr 2 0, .own 3, .own 4, .fz D1 (w) false, .int .i64 (w1), .bool (w2)], .p0 G4 o_ none, .obj [.map 5], .row P1 (y1), .row L2 (y2), .map (.int .i64) true P1 N1]) (fun o_ => K .normal (I0 (D0 1 0x1) [.ptr 0 0]) [.obj [.X0 6, .ptr 2 0, .own 3, .own 4, .fz D1 (w) false, .int .i64 (w1), .bool (w2)], .gone, .obj [.map 5], .row P1 (y1), .row L2 (y2), .map (.int .i64) true P1 (y3), .p0 G4 o_ none]) (fun o_ N1 J2 => K .normal (I0 (D0 1 0x1) [.ptr 0 0]) [.obj [.X0 1, .ptr 2 0, .own 6, .own 4, .fz D1 (w) false, .int .i64 (w1), .bool (w2)], .p0 G4 o_ none, .obj [.map 5], .gone, .row L2 (y2), .map (.int .i64) true P1 N1, .row P1 J2]) = n4 Try.prog (FF fu) 300 (EE fu) 65375 (G3 (N0 S4 65375)) (I0 (D0 127 0x400000000000000008000000000000f9) [.ptr 0 0, .ptr 6 0, .int .i64 k_, .pp 1 r, .int .i64 at_, .ptr 7 0, .int .i64 x, .bool x1]) [.obj [.X0 1, .ptr 2 0, .own 3, .own 4, .fz D1 w false, .int .i64 w1, .bool w2], .p0 G4 y none, .obj [.map 5], .row P1 y1, .row L2 y2, .map (.int .i64) true P1 y3, .obj [.int .i64 ob, .int .i64 YX, .int .i64 Dc], .obj [.int .i64 P3, .fz X1 GM false, .bool GL]] (UL 6 [.live (D0 1 0x1), .gc, .X3 0 2 P1, .X3 0 3 L2, .gc] K) := by kernel_rfl
theorem YU (fu : Nat) : R0 Try.prog 6 S4 (EE fu) := fun p told h b hb => by
 replace h : EE fu p = some told := h
 unfold EE at h
 split at h
 ·rename_i hp
  cases h
  have := B6 hp
  subst this
  rw [Ks] at hb
  cases hb
  exact C3 (SM fu)
 ·
  cases h
theorem YD (fu : Nat) : l4 Try.prog 6 (G3 (N0 S4 65375)) (E8 (D0 127 0x400000000000000008000000000000f9) (JB fu)) := by
 refine J5 (gout := [.live (D0 1 0x1), .gc, .X3 0 2 P1, .X3 0 3 L2, .gc]) (k := 300) (T7 fu) (YU fu) (by decide) Ps (fun R e s K r h => ?_)
 unfold JB at h; split at h
 case h_2 => cases h
 iterate 6 (split at h; (case h_2 => cases h); rename_i hq; have hq := FT.J0 _ _ hq; subst hq)
 exact (ZE fu R K _ _ _ _ _ _ _ _ _ _ _ _ _ _ _ _ _ _).symm.trans h
theorem Pt : N0 S4 65367 = some (G3 (N0 S4 65367)) := by kernel_rfl
def s6 {R : Type} (fu : Nat) (y2 l : List (List D)) (k0 : (List (List D)) -> Option R) : Option R :=
 bif fits (y2.length + l.length) 72 then (k0 (y2 ++ l)) else none
def JC (fu : Nat) : M1 := fun _ e s K => match e, s with
 | [.ptr 0 0, .own 6], [.obj [.X0 1, .ptr 2 0, .own 3, .own 4, .fz U4 w false, .int .i64 w1, .bool w2], .p0 C6 y none, .obj [.map 5], .row Ag y1, .row Cj y2, .map (.int .i64) true Ci y3, .row OP l] => (match FT.F0 U4 D1 with | true => (match FT.F0 C6 G4 with | true => (match FT.F0 Ag P1 with | true => (match FT.F0 Cj L2 with | true => (match FT.F0 Ci P1 with | true => (match FT.F0 OP L2 with | true => s6 fu y2 l (fun o_ => K .normal (I0 (D0 1 0x1) [.ptr 0 0]) [.obj [.X0 1, .ptr 2 0, .own 3, .own 6, .fz D1 (w) false, .int .i64 (w1), .bool (w2)], .p0 G4 (y) none, .obj [.map 5], .row P1 (y1), .gone, .map (.int .i64) true P1 (y3), .row L2 o_]) | false => none) | false => none) | false => none) | false => none) | false => none) | false => none)
 | _, _ => none
def NB (fu : Nat) : Nat -> Option M1 := fun _ => none
theorem ZF (fu : Nat) (R : Type) (K : Y2 -> R1 -> O0 -> Option R) (w : List (List D)) (w1 : Int) (w2 : Bool) (y y1 y2 : List (List D)) (y3 : List (D × List D)) (l : List (List D)) :
  s6 fu y2 l (fun o_ => K .normal (I0 (D0 1 0x1) [.ptr 0 0]) [.obj [.X0 1, .ptr 2 0, .own 3, .own 6, .fz D1 (w) false, .int .i64 (w1), .bool (w2)], .p0 G4 (y) none, .obj [.map 5], .row P1 (y1), .gone, .map (.int .i64) true P1 (y3), .row L2 o_]) = n4 Try.prog (FF fu) 300 (NB fu) 65367 (G3 (N0 S4 65367)) (I0 (D0 10 0x201) [.ptr 0 0, .own 6]) [.obj [.X0 1, .ptr 2 0, .own 3, .own 4, .fz D1 w false, .int .i64 w1, .bool w2], .p0 G4 y none, .obj [.map 5], .row P1 y1, .row L2 y2, .map (.int .i64) true P1 y3, .row L2 l] (UL 6 [.live (D0 1 0x1), .gc] K) := by kernel_rfl
theorem YV (fu : Nat) : R0 Try.prog 6 S4 (NB fu) := R0.none _ _ _
theorem YE (fu : Nat) : l4 Try.prog 6 (G3 (N0 S4 65367)) (E8 (D0 10 0x201) (JC fu)) := by
 refine J5 (gout := [.live (D0 1 0x1), .gc]) (k := 300) (T7 fu) (YV fu) (by decide) Pt (fun R e s K r h => ?_)
 unfold JC at h; split at h
 case h_2 => cases h
 iterate 6 (split at h; (case h_2 => cases h); rename_i hq; have hq := FT.J0 _ _ hq; subst hq)
 exact (ZF fu R K _ _ _ _ _ _ _ _).symm.trans h
def Gc {R : Type} (fu : Nat) (k_ : Int) (r : Nat) (at_ : Int) (w : List (List D)) (w1 : Int) (w2 : Bool) (y y1 y2 : List (List D)) (y3 : List (D × List D)) (ob Dc : Int) (k0 : (List (List D)) -> Int -> Bool -> (List (List D)) -> (List (List D)) -> Option R) (k1 : (List (List D)) -> Bool -> (List (List D)) -> (List (List D)) -> Option R) (k2 : (List (List D)) -> Bool -> (List (List D)) -> (List (D × List D)) -> Option R) (k3 : (List (List D)) -> Bool -> (List (List D)) -> Option R) (k4 : (List (List D)) -> Bool -> (List (List D)) -> (List (D × List D)) -> (List (List D)) -> Option R) : Option R :=
 bif within (IntKind.i64.wrap (S1 y1.length - 1)) y1.length then bif decide (ob = 0) then F14 fu (IntKind.i64.wrap (w1 + 1)) fun u3 => R7 (elem r y) fun Z1 => F30 fu u3 (cell 0 Z1).toInt (cell 1 Z1).toInt (cell 2 Z1).C0 (cell 3 Z1).toBool (cell 4 Z1).C0 (cell 5 Z1).toBool (cell 6 Z1).toInt (cell 7 Z1).toInt (cell 8 Z1).toInt (cell 9 Z1).toInt (cell 10 Z1).toBool (cell 11 Z1).toInt fun J2 B3 A4 G5 Y5 => S7 (setAt y r [D.int (cell 0 Z1).toInt, D.int (cell 1 Z1).toInt, D.row (cell 2 Z1).C0, D.bool (cell 3 Z1).toBool, D.row A4, D.bool (cell 5 Z1).toBool, D.int G5, D.int (cell 7 Z1).toInt, D.int (cell 8 Z1).toInt, D.int (cell 9 Z1).toInt, D.bool (cell 10 Z1).toBool, D.int (cell 11 Z1).toInt]) fun dA => bif w2 then s6 fu y2 Y5 fun W8 => F39 fu dA y1 W8 w (IntKind.i64.wrap (w1 + 1)) true y3 fun R9 Q5 H5 => (k0 R9 (IntKind.i64.wrap (w1 + 1)) Q5 H5 W8) else R7 (elem r dA) fun Z12 => F23 fu (cell 0 Z12).toInt (cell 1 Z12).toInt (cell 2 Z12).C0 (cell 3 Z12).toBool (cell 4 Z12).C0 (cell 5 Z12).toBool (cell 6 Z12).toInt (cell 7 Z12).toInt (cell 8 Z12).toInt (cell 9 Z12).toInt (cell 10 Z12).toBool (cell 11 Z12).toInt fun M6 => S7 (setAt dA r [D.int (cell 0 Z12).toInt, D.int (cell 1 Z12).toInt, D.row (cell 2 Z12).C0, D.bool (cell 3 Z12).toBool, D.row (cell 4 Z12).C0, D.bool (cell 5 Z12).toBool, D.int (cell 6 Z12).toInt, D.int (cell 7 Z12).toInt, D.int (cell 8 Z12).toInt, D.int (cell 9 Z12).toInt, D.bool (cell 10 Z12).toBool, D.int (cell 11 Z12).toInt]) fun JZ => bif !decide (B3 = 0) == M6 then s6 fu y2 Y5 fun H7 => F39 fu JZ y1 H7 w (IntKind.i64.wrap (w1 + 1)) true y3 fun o9 o4 M9 => (k0 o9 (IntKind.i64.wrap (w1 + 1)) o4 M9 H7) else bif decide (B3 = 0) then R7 (elem r JZ) fun Z19 => F16 fu (cell 0 Z19).toInt (cell 1 Z19).toInt (cell 2 Z19).C0 (cell 3 Z19).toBool (cell 4 Z19).C0 (cell 5 Z19).toBool (cell 6 Z19).toInt (cell 7 Z19).toInt (cell 8 Z19).toInt (cell 9 Z19).toInt (cell 10 Z19).toBool (cell 11 Z19).toInt (S7 (setAt JZ r [D.int (cell 0 Z19).toInt, D.int (cell 1 Z19).toInt, D.row (cell 2 Z19).C0, D.bool (cell 3 Z19).toBool, D.row (cell 4 Z19).C0, D.bool (cell 5 Z19).toBool, D.int (cell 6 Z19).toInt, D.int (cell 7 Z19).toInt, D.int (cell 8 Z19).toInt, D.int (cell 9 Z19).toInt, D.bool (cell 10 Z19).toBool, D.int (cell 11 Z19).toInt]) fun Vm => s6 fu y2 Y5 fun Dd => F39 fu Vm y1 Dd w (IntKind.i64.wrap (w1 + 1)) (!decide (J2 = S1 (cell 4 Z19).C0.length)) y3 fun FV HQ JK => (k0 FV (IntKind.i64.wrap (w1 + 1)) HQ JK Dd)) else s6 fu y2 Y5 fun HP => F39 fu JZ y1 HP w (IntKind.i64.wrap (w1 + 1)) false y3 fun JJ NI NH => (k0 JJ (IntKind.i64.wrap (w1 + 1)) NI NH HP) else bif decide (ob = 1) then R7 (elem r y) fun Z29 => F31 fu (cell 0 Z29).toInt (cell 1 Z29).toInt (cell 2 Z29).C0 (cell 3 Z29).toBool (cell 4 Z29).C0 (cell 5 Z29).toBool (cell 6 Z29).toInt (cell 7 Z29).toInt (cell 8 Z29).toInt (cell 9 Z29).toInt (cell 10 Z29).toBool (cell 11 Z29).toInt fun JI => S7 (setAt y r [D.int (cell 0 Z29).toInt, D.int (cell 1 Z29).toInt, D.row (cell 2 Z29).C0, D.bool (cell 3 Z29).toBool, D.row (cell 4 Z29).C0, D.bool (cell 5 Z29).toBool, D.int (cell 6 Z29).toInt, D.int (cell 7 Z29).toInt, D.int (cell 8 Z29).toInt, D.int (cell 9 Z29).toInt, D.bool (cell 10 Z29).toBool, D.int (cell 11 Z29).toInt]) fun vG => bif fits (y2.length + JI.length) 72 then F39 fu vG y1 (y2 ++ JI) w w1 w2 y3 fun NG Qg Qf => (k0 NG w1 Qg Qf (y2 ++ JI)) else none else bif decide (ob = 2) then BC fu k_ r at_ ob (decide (ob = 2)) w w1 w2 y y1 y2 y3 ob Dc (cell 0 (elem (IntKind.i64.wrap (S1 y1.length - 1)).toNat y1)).toInt (cell 1 (elem (IntKind.i64.wrap (S1 y1.length - 1)).toNat y1)).C0 (cell 2 (elem (IntKind.i64.wrap (S1 y1.length - 1)).toNat y1)).toBool (fun Qe OU => F39 fu Qe y1 OU w w1 w2 y3 fun Qd Qc Qb => (k1 Qd Qc Qb OU)) (fun Qa OT => F39 fu Qa y1 OT w w1 w2 y3 fun QZ QY VI => (k0 QZ w1 QY VI OT)) (fun bX YY => F39 fu bX y1 y2 w w1 w2 YY fun bW bV bU => (k2 bW bV bU YY)) (fun lU => F39 fu lU y1 y2 w w1 w2 y3 fun lT lS lR => (k3 lT lS lR)) fun lQ iE iD => F39 fu lQ iD y2 w w1 w2 iE fun lP lO lN => (k4 lP lO lN iE iD) else BC fu k_ r at_ ob (decide (ob = 3)) w w1 w2 y y1 y2 y3 ob Dc (cell 0 (elem (IntKind.i64.wrap (S1 y1.length - 1)).toNat y1)).toInt (cell 1 (elem (IntKind.i64.wrap (S1 y1.length - 1)).toNat y1)).C0 (cell 2 (elem (IntKind.i64.wrap (S1 y1.length - 1)).toNat y1)).toBool (fun lM iC => F39 fu lM y1 iC w w1 w2 y3 fun lL tS tR => (k1 lL tS tR iC)) (fun tQ qN => F39 fu tQ y1 qN w w1 w2 y3 fun tP tO tN => (k0 tP w1 tO tN qN)) (fun tM qM => F39 fu tM y1 y2 w w1 w2 qM fun tL tK tJ => (k2 tL tK tJ qM)) (fun tI => F39 fu tI y1 y2 w w1 w2 y3 fun tH tG tF => (k3 tH tG tF)) fun tE qL qK => F39 fu tE qK y2 w w1 w2 qL fun tD tC tB => (k4 tD tC tB qL qK) else none
def QK (fu : Nat) : M1 := fun _ e s K => match e, s with
 | [.ptr 0 0, .ptr 6 0, .int .i64 k_, .pp 1 r, .int .i64 at_], [.obj [.X0 1, .ptr 2 0, .own 3, .own 4, .fz U4 w false, .int .i64 w1, .bool w2], .p0 C6 y none, .obj [.map 5], .row Ag y1, .row Cj y2, .map (.int .i64) true Ci y3, .obj [.int .i64 ob, .int .i64 YX, .int .i64 Dc]] => (match FT.F0 U4 D1 with | true => (match FT.F0 C6 G4 with | true => (match FT.F0 Ag P1 with | true => (match FT.F0 Cj L2 with | true => (match FT.F0 Ci P1 with | true => Gc fu k_ r at_ w w1 w2 y y1 y2 y3 ob Dc (fun o_ N1 J2 B3 A4 => K .normal (I0 (D0 0 0x0) []) [.obj [.X0 1, .ptr 2 0, .own 3, .own 6, .fz D1 o_ false, .int .i64 N1, .bool J2], .p0 G4 B3 none, .obj [.map 5], .row P1 (y1), .gone, .map (.int .i64) true P1 (y3), .row L2 A4]) (fun o_ N1 J2 B3 => K .normal (I0 (D0 0 0x0) []) [.obj [.X0 1, .ptr 2 0, .own 3, .own 6, .fz D1 o_ false, .int .i64 (w1), .bool N1], .p0 G4 J2 none, .obj [.map 5], .row P1 (y1), .old L2 (y2), .map (.int .i64) true P1 (y3), .row L2 B3]) (fun o_ N1 J2 B3 => K .normal (I0 (D0 0 0x0) []) [.obj [.X0 1, .ptr 2 0, .own 3, .own 4, .fz D1 o_ false, .int .i64 (w1), .bool N1], .p0 G4 J2 none, .obj [.map 5], .row P1 (y1), .row L2 (y2), .map (.int .i64) true P1 B3]) (fun o_ N1 J2 => K .normal (I0 (D0 0 0x0) []) [.obj [.X0 6, .ptr 2 0, .own 3, .own 4, .fz D1 o_ false, .int .i64 (w1), .bool N1], .gone, .obj [.map 5], .row P1 (y1), .row L2 (y2), .map (.int .i64) true P1 (y3), .p0 G4 J2 none]) (fun o_ N1 J2 B3 A4 => K .normal (I0 (D0 0 0x0) []) [.obj [.X0 1, .ptr 2 0, .own 6, .own 4, .fz D1 o_ false, .int .i64 (w1), .bool N1], .p0 G4 J2 none, .obj [.map 5], .gone, .row L2 (y2), .map (.int .i64) true P1 B3, .row P1 A4]) | false => none) | false => none) | false => none) | false => none) | false => none)
 | _, _ => none
def IQ (fu : Nat) : Nat -> Option M1 := fun p => match Nat.beq p 65375 with | true => some (Ie 6 [.live (D0 127 0x400000000000000008000000000000f9), .gc, .S3 7 1 X1, .gc] (E8 (D0 127 0x400000000000000008000000000000f9) (JB fu))) | false => match Nat.beq p 65367 with | true => some (Ie 6 [.live (D0 10 0x201), .j9 9 [] L2, .gc] (E8 (D0 10 0x201) (JC fu))) | false => none
theorem jG (fu : Nat) (R : Type) (K : Y2 -> R1 -> O0 -> Option R) (k_ : Int) (r : Nat) (at_ : Int) (w : List (List D)) (w1 : Int) (w2 : Bool) (y y1 y2 : List (List D)) (y3 : List (D × List D)) (ob YX Dc : Int) :
  Gc fu k_ r at_ w w1 w2 y y1 y2 y3 ob Dc (fun o_ N1 J2 B3 A4 => K .normal (I0 (D0 0 0x0) []) [.obj [.X0 1, .ptr 2 0, .own 3, .own 6, .fz D1 o_ false, .int .i64 N1, .bool J2], .p0 G4 B3 none, .obj [.map 5], .row P1 (y1), .gone, .map (.int .i64) true P1 (y3), .row L2 A4]) (fun o_ N1 J2 B3 => K .normal (I0 (D0 0 0x0) []) [.obj [.X0 1, .ptr 2 0, .own 3, .own 6, .fz D1 o_ false, .int .i64 (w1), .bool N1], .p0 G4 J2 none, .obj [.map 5], .row P1 (y1), .old L2 (y2), .map (.int .i64) true P1 (y3), .row L2 B3]) (fun o_ N1 J2 B3 => K .normal (I0 (D0 0 0x0) []) [.obj [.X0 1, .ptr 2 0, .own 3, .own 4, .fz D1 o_ false, .int .i64 (w1), .bool N1], .p0 G4 J2 none, .obj [.map 5], .row P1 (y1), .row L2 (y2), .map (.int .i64) true P1 B3]) (fun o_ N1 J2 => K .normal (I0 (D0 0 0x0) []) [.obj [.X0 6, .ptr 2 0, .own 3, .own 4, .fz D1 o_ false, .int .i64 (w1), .bool N1], .gone, .obj [.map 5], .row P1 (y1), .row L2 (y2), .map (.int .i64) true P1 (y3), .p0 G4 J2 none]) (fun o_ N1 J2 B3 A4 => K .normal (I0 (D0 0 0x0) []) [.obj [.X0 1, .ptr 2 0, .own 6, .own 4, .fz D1 o_ false, .int .i64 (w1), .bool N1], .p0 G4 J2 none, .obj [.map 5], .gone, .row L2 (y2), .map (.int .i64) true P1 B3, .row P1 A4]) = n4 Try.prog (FF fu) 300 (IQ fu) 127 (G3 (N0 S4 127)) (I0 (D0 7 0x79) [.ptr 0 0, .ptr 6 0, .int .i64 k_, .pp 1 r, .int .i64 at_]) [.obj [.X0 1, .ptr 2 0, .own 3, .own 4, .fz D1 w false, .int .i64 w1, .bool w2], .p0 G4 y none, .obj [.map 5], .row P1 y1, .row L2 y2, .map (.int .i64) true P1 y3, .obj [.int .i64 ob, .int .i64 YX, .int .i64 Dc]] (UL 6 [.live (D0 0 0), .gc, .X3 0 2 P1, .X3 0 3 L2, .gc] K) := by kernel_rfl
theorem gy (fu : Nat) : R0 Try.prog 6 S4 (IQ fu) := fun p told h b hb => by
 replace h : IQ fu p = some told := h
 unfold IQ at h
 split at h
 ·rename_i hp
  cases h
  have := B6 hp
  subst this
  rw [Ps] at hb
  cases hb
  exact C3 (YD fu)
 ·
  split at h
  ·rename_i hp
   cases h
   have := B6 hp
   subst this
   rw [Pt] at hb
   cases hb
   exact C3 (YE fu)
  ·
   cases h
theorem gO (fu : Nat) : l4 Try.prog 6 (G3 (N0 S4 127)) (E8 (D0 7 0x79) (QK fu)) := by
 refine J5 (gout := [.live (D0 0 0), .gc, .X3 0 2 P1, .X3 0 3 L2, .gc]) (k := 300) (T7 fu) (gy fu) (by decide) XV (fun R e s K r h => ?_)
 unfold QK at h; split at h
 case h_2 => cases h
 iterate 5 (split at h; (case h_2 => cases h); rename_i hq; have hq := FT.J0 _ _ hq; subst hq)
 exact (jG fu R K _ _ _ _ _ _ _ _ _ _ _ _ _).symm.trans h
def Ho {R : Type} (fu : Nat) (k_ : Int) (w : List (List D)) (w1 : Int) (w2 : Bool) (y y1 y2 : List (List D)) (y3 : List (D × List D)) (ob Dc : Int) (k0 : (List (List D)) -> Int -> Bool -> (List (List D)) -> (List (List D)) -> Option R) (k1 : (List (List D)) -> Bool -> (List (List D)) -> (List (List D)) -> Option R) (k2 : (List (List D)) -> Bool -> (List (List D)) -> (List (D × List D)) -> Option R) (k3 : (List (List D)) -> Bool -> (List (List D)) -> Option R) (k4 : (List (List D)) -> Bool -> (List (List D)) -> (List (D × List D)) -> (List (List D)) -> Option R) : Option R :=
 bif within k_ y.length then bif decide (0 < S1 y2.length) then Gb fu (-1) (decide (0 <= Dc)) y2 Dc fun u3 => Gc fu k_ k_.toNat u3 w w1 w2 y y1 y2 y3 ob Dc (fun N1 J2 B3 A4 G5 => (k0 N1 J2 B3 A4 G5)) (fun Y5 B9 W8 R9 => (k1 Y5 B9 W8 R9)) (fun Q5 H5 I7 M6 => (k2 Q5 H5 I7 M6)) (fun q8 H7 o9 => (k3 q8 H7 o9)) fun o4 M9 BS Bm Dd => (k4 o4 M9 BS Bm Dd) else Gb fu (-1) false y2 Dc fun FV => Gc fu k_ k_.toNat FV w w1 w2 y y1 y2 y3 ob Dc (fun HQ JK HP JJ NI => (k0 HQ JK HP JJ NI)) (fun NH VJ JI Qh => (k1 NH VJ JI Qh)) (fun NG Qg Qf Qe => (k2 NG Qg Qf Qe)) (fun OU Qd Qc => (k3 OU Qd Qc)) fun Qb Qa OT QZ QY => (k4 Qb Qa OT QZ QY) else none
def Up (fu : Nat) : M1 := fun _ e s K => match e, s with
 | [.ptr 0 0, .ptr 6 0, .int .i64 k_], [.obj [.X0 1, .ptr 2 0, .own 3, .own 4, .fz U4 w false, .int .i64 w1, .bool w2], .p0 C6 y none, .obj [.map 5], .row Ag y1, .row Cj y2, .map (.int .i64) true Ci y3, .obj [.int .i64 ob, .int .i64 YX, .int .i64 Dc]] => (match FT.F0 U4 D1 with | true => (match FT.F0 C6 G4 with | true => (match FT.F0 Ag P1 with | true => (match FT.F0 Cj L2 with | true => (match FT.F0 Ci P1 with | true => Ho fu k_ w w1 w2 y y1 y2 y3 ob Dc (fun o_ N1 J2 B3 A4 => K .normal (I0 (D0 0 0x0) []) [.obj [.X0 1, .ptr 2 0, .own 3, .own 6, .fz D1 o_ false, .int .i64 N1, .bool J2], .p0 G4 B3 none, .obj [.map 5], .row P1 (y1), .gone, .map (.int .i64) true P1 (y3), .row L2 A4]) (fun o_ N1 J2 B3 => K .normal (I0 (D0 0 0x0) []) [.obj [.X0 1, .ptr 2 0, .own 3, .own 6, .fz D1 o_ false, .int .i64 (w1), .bool N1], .p0 G4 J2 none, .obj [.map 5], .row P1 (y1), .old L2 (y2), .map (.int .i64) true P1 (y3), .row L2 B3]) (fun o_ N1 J2 B3 => K .normal (I0 (D0 0 0x0) []) [.obj [.X0 1, .ptr 2 0, .own 3, .own 4, .fz D1 o_ false, .int .i64 (w1), .bool N1], .p0 G4 J2 none, .obj [.map 5], .row P1 (y1), .row L2 (y2), .map (.int .i64) true P1 B3]) (fun o_ N1 J2 => K .normal (I0 (D0 0 0x0) []) [.obj [.X0 6, .ptr 2 0, .own 3, .own 4, .fz D1 o_ false, .int .i64 (w1), .bool N1], .gone, .obj [.map 5], .row P1 (y1), .row L2 (y2), .map (.int .i64) true P1 (y3), .p0 G4 J2 none]) (fun o_ N1 J2 B3 A4 => K .normal (I0 (D0 0 0x0) []) [.obj [.X0 1, .ptr 2 0, .own 6, .own 4, .fz D1 o_ false, .int .i64 (w1), .bool N1], .p0 G4 J2 none, .obj [.map 5], .gone, .row L2 (y2), .map (.int .i64) true P1 B3, .row P1 A4]) | false => none) | false => none) | false => none) | false => none) | false => none)
 | _, _ => none
def LU (fu : Nat) : Nat -> Option M1 := fun p => match Nat.beq p 253 with | true => some (Ie 6 [.live (D0 38 0x2000000079), .gc] (E8 (D0 38 0x2000000079) (QJ fu))) | false => match Nat.beq p 127 with | true => some (Ie 6 [.live (D0 7 0x79), .gc] (E8 (D0 7 0x79) (QK fu))) | false => none
theorem nG (fu : Nat) (R : Type) (K : Y2 -> R1 -> O0 -> Option R) (k_ : Int) (w : List (List D)) (w1 : Int) (w2 : Bool) (y y1 y2 : List (List D)) (y3 : List (D × List D)) (ob YX Dc : Int) :
  Ho fu k_ w w1 w2 y y1 y2 y3 ob Dc (fun o_ N1 J2 B3 A4 => K .normal (I0 (D0 0 0x0) []) [.obj [.X0 1, .ptr 2 0, .own 3, .own 6, .fz D1 o_ false, .int .i64 N1, .bool J2], .p0 G4 B3 none, .obj [.map 5], .row P1 (y1), .gone, .map (.int .i64) true P1 (y3), .row L2 A4]) (fun o_ N1 J2 B3 => K .normal (I0 (D0 0 0x0) []) [.obj [.X0 1, .ptr 2 0, .own 3, .own 6, .fz D1 o_ false, .int .i64 (w1), .bool N1], .p0 G4 J2 none, .obj [.map 5], .row P1 (y1), .old L2 (y2), .map (.int .i64) true P1 (y3), .row L2 B3]) (fun o_ N1 J2 B3 => K .normal (I0 (D0 0 0x0) []) [.obj [.X0 1, .ptr 2 0, .own 3, .own 4, .fz D1 o_ false, .int .i64 (w1), .bool N1], .p0 G4 J2 none, .obj [.map 5], .row P1 (y1), .row L2 (y2), .map (.int .i64) true P1 B3]) (fun o_ N1 J2 => K .normal (I0 (D0 0 0x0) []) [.obj [.X0 6, .ptr 2 0, .own 3, .own 4, .fz D1 o_ false, .int .i64 (w1), .bool N1], .gone, .obj [.map 5], .row P1 (y1), .row L2 (y2), .map (.int .i64) true P1 (y3), .p0 G4 J2 none]) (fun o_ N1 J2 B3 A4 => K .normal (I0 (D0 0 0x0) []) [.obj [.X0 1, .ptr 2 0, .own 6, .own 4, .fz D1 o_ false, .int .i64 (w1), .bool N1], .p0 G4 J2 none, .obj [.map 5], .gone, .row L2 (y2), .map (.int .i64) true P1 B3, .row P1 A4]) = n4 Try.prog (FF fu) 300 (LU fu) 15 (G3 (N0 S4 15)) (I0 (D0 5 0x19) [.ptr 0 0, .ptr 6 0, .int .i64 k_]) [.obj [.X0 1, .ptr 2 0, .own 3, .own 4, .fz D1 w false, .int .i64 w1, .bool w2], .p0 G4 y none, .obj [.map 5], .row P1 y1, .row L2 y2, .map (.int .i64) true P1 y3, .obj [.int .i64 ob, .int .i64 YX, .int .i64 Dc]] (UL 6 [.live (D0 0 0), .gc, .X3 0 2 P1, .X3 0 3 L2, .gc] K) := by kernel_rfl
theorem lF (fu : Nat) : R0 Try.prog 6 S4 (LU fu) := fun p told h b hb => by
 replace h : LU fu p = some told := h
 unfold LU at h
 split at h
 ·rename_i hp
  cases h
  have := B6 hp
  subst this
  rw [XU] at hb
  cases hb
  exact C3 (gN fu)
 ·
  split at h
  ·rename_i hp
   cases h
   have := B6 hp
   subst this
   rw [XV] at hb
   cases hb
   exact C3 (gO fu)
  ·
   cases h
theorem kn (fu : Nat) : l4 Try.prog 6 (G3 (N0 S4 15)) (E8 (D0 5 0x19) (Up fu)) := by
 refine J5 (gout := [.live (D0 0 0), .gc, .X3 0 2 P1, .X3 0 3 L2, .gc]) (k := 300) (T7 fu) (lF fu) (by decide) eR (fun R e s K r h => ?_)
 unfold Up at h; split at h
 case h_2 => cases h
 iterate 5 (split at h; (case h_2 => cases h); rename_i hq; have hq := FT.J0 _ _ hq; subst hq)
 exact (nG fu R K _ _ _ _ _ _ _ _ _ _ _).symm.trans h
def oG {R : Type} (fu : Nat) (o_ : List D) (AG AD AE AA : List (List D)) (AB : Int) (AC : Bool) (AF : List (D × List D)) (k0 : (List (List D)) -> Int -> Bool -> (List (List D)) -> (List (List D)) -> Option R) (k1 : (List (List D)) -> Bool -> (List (List D)) -> (List (List D)) -> Option R) (k2 : (List (List D)) -> Bool -> (List (List D)) -> (List (D × List D)) -> Option R) (k3 : (List (List D)) -> Bool -> (List (List D)) -> Option R) (k4 : (List (List D)) -> Bool -> (List (List D)) -> (List (D × List D)) -> (List (List D)) -> Option R) : Option R :=
 bif decide ((cell 1 o_).toInt < 0) then Ho fu 0 AA AB AC AG AD AE AF (cell 0 o_).toInt (cell 2 o_).toInt (fun u3 N1 J2 B3 A4 => (k0 u3 N1 J2 B3 A4)) (fun G5 Y5 B9 W8 => (k1 G5 Y5 B9 W8)) (fun R9 Q5 H5 I7 => (k2 R9 Q5 H5 I7)) (fun M6 q8 H7 => (k3 M6 q8 H7)) fun o9 o4 M9 BS Bm => (k4 o9 o4 M9 BS Bm) else bif decide (5 <= (cell 1 o_).toInt) then Ho fu 0 AA AB AC AG AD AE AF (cell 0 o_).toInt (cell 2 o_).toInt (fun Dd FV HQ JK HP => (k0 Dd FV HQ JK HP)) (fun JJ NI NH VJ => (k1 JJ NI NH VJ)) (fun JI Qh NG Qg => (k2 JI Qh NG Qg)) (fun Qf Qe OU => (k3 Qf Qe OU)) fun Qd Qc Qb Qa OT => (k4 Qd Qc Qb Qa OT) else Ho fu (cell 1 o_).toInt AA AB AC AG AD AE AF (cell 0 o_).toInt (cell 2 o_).toInt (fun QZ QY VI bX YY => (k0 QZ QY VI bX YY)) (fun bW bV bU lU => (k1 bW bV bU lU)) (fun lT lS lR lQ => (k2 lT lS lR lQ)) (fun iE iD lP => (k3 iE iD lP)) fun lO lN lM iC lL => (k4 lO lN lM iC lL)
def F13 {R : Type} := shut (@oG R)
theorem fX {R : Type} (fu : Nat) (o_ : List D) (AG AD AE AA : List (List D)) (AB : Int) (AC : Bool) (AF : List (D × List D)) (k0 : (List (List D)) -> Int -> Bool -> (List (List D)) -> (List (List D)) -> Option R) (k1 : (List (List D)) -> Bool -> (List (List D)) -> (List (List D)) -> Option R) (k2 : (List (List D)) -> Bool -> (List (List D)) -> (List (D × List D)) -> Option R) (k3 : (List (List D)) -> Bool -> (List (List D)) -> Option R) (k4 : (List (List D)) -> Bool -> (List (List D)) -> (List (D × List D)) -> (List (List D)) -> Option R) : F13 fu o_ AG AD AE AA AB AC AF k0 k1 k2 k3 k4 = oG fu o_ AG AD AE AA AB AC AF k0 k1 k2 k3 k4 := by unfold F13; rw [O2]
def gk (fu : Nat) : Nat -> Option M1 := fun p => match Nat.beq p 15 with | true => some (Ie 6 [.live (D0 5 0x19), .gc] (E8 (D0 5 0x19) (Up fu))) | false => none
def t13 (fu : Nat) : J1 := fun _ args s K => match args, s with
 | [.ptr 0 0, .agg [.int .i64 q, .int .i64 q1, .int .i64 q2]], [.obj [.X0 1, .ptr 2 0, .own 3, .own 4, .fz U4 AA false, .int .i64 AB, .bool AC], .p0 C6 AG none, .obj [.map 5], .row Ag AD, .row Cj AE, .map (.int .i64) true Ci AF] => (match FT.F0 U4 D1 with | true => (match FT.F0 C6 G4 with | true => (match FT.F0 Ag P1 with | true => (match FT.F0 Cj L2 with | true => (match FT.F0 Ci P1 with | true => F13 fu [D.int q, D.int q1, D.int q2] AG AD AE AA AB AC AF (fun o_ N1 J2 B3 A4 => K (.tuple []) [.obj [.X0 1, .ptr 2 0, .own 3, .own 6, .fz D1 o_ false, .int .i64 N1, .bool J2], .p0 G4 B3 none, .obj [.map 5], .row P1 (AD), .gone, .map (.int .i64) true P1 (AF), .row L2 A4]) (fun o_ N1 J2 B3 => K (.tuple []) [.obj [.X0 1, .ptr 2 0, .own 3, .own 6, .fz D1 o_ false, .int .i64 (AB), .bool N1], .p0 G4 J2 none, .obj [.map 5], .row P1 (AD), .old L2 (AE), .map (.int .i64) true P1 (AF), .row L2 B3]) (fun o_ N1 J2 B3 => K (.tuple []) [.obj [.X0 1, .ptr 2 0, .own 3, .own 4, .fz D1 o_ false, .int .i64 (AB), .bool N1], .p0 G4 J2 none, .obj [.map 5], .row P1 (AD), .row L2 (AE), .map (.int .i64) true P1 B3]) (fun o_ N1 J2 => K (.tuple []) [.obj [.X0 6, .ptr 2 0, .own 3, .own 4, .fz D1 o_ false, .int .i64 (AB), .bool N1], .gone, .obj [.map 5], .row P1 (AD), .row L2 (AE), .map (.int .i64) true P1 (AF), .p0 G4 J2 none]) (fun o_ N1 J2 B3 A4 => K (.tuple []) [.obj [.X0 1, .ptr 2 0, .own 6, .own 4, .fz D1 o_ false, .int .i64 (AB), .bool N1], .p0 G4 J2 none, .obj [.map 5], .gone, .row L2 (AE), .map (.int .i64) true P1 B3, .row P1 A4]) | false => none) | false => none) | false => none) | false => none) | false => none)
 | _, _ => none
theorem e13 (R : Type) (K : UV -> O0 -> Option R) (fu : Nat) (q q1 q2 : Int) (AG AD AE AA : List (List D)) (AB : Int) (AC : Bool) (AF : List (D × List D)) :
  F13 fu [D.int q, D.int q1, D.int q2] AG AD AE AA AB AC AF (fun o_ N1 J2 B3 A4 => K (.tuple []) [.obj [.X0 1, .ptr 2 0, .own 3, .own 6, .fz D1 o_ false, .int .i64 N1, .bool J2], .p0 G4 B3 none, .obj [.map 5], .row P1 (AD), .gone, .map (.int .i64) true P1 (AF), .row L2 A4]) (fun o_ N1 J2 B3 => K (.tuple []) [.obj [.X0 1, .ptr 2 0, .own 3, .own 6, .fz D1 o_ false, .int .i64 (AB), .bool N1], .p0 G4 J2 none, .obj [.map 5], .row P1 (AD), .old L2 (AE), .map (.int .i64) true P1 (AF), .row L2 B3]) (fun o_ N1 J2 B3 => K (.tuple []) [.obj [.X0 1, .ptr 2 0, .own 3, .own 4, .fz D1 o_ false, .int .i64 (AB), .bool N1], .p0 G4 J2 none, .obj [.map 5], .row P1 (AD), .row L2 (AE), .map (.int .i64) true P1 B3]) (fun o_ N1 J2 => K (.tuple []) [.obj [.X0 6, .ptr 2 0, .own 3, .own 4, .fz D1 o_ false, .int .i64 (AB), .bool N1], .gone, .obj [.map 5], .row P1 (AD), .row L2 (AE), .map (.int .i64) true P1 (AF), .p0 G4 J2 none]) (fun o_ N1 J2 B3 A4 => K (.tuple []) [.obj [.X0 1, .ptr 2 0, .own 6, .own 4, .fz D1 o_ false, .int .i64 (AB), .bool N1], .p0 G4 J2 none, .obj [.map 5], .gone, .row L2 (AE), .map (.int .i64) true P1 B3, .row P1 A4]) = I6 Try.prog ⟨(FF fu), gk fu⟩ 300 13 [.ptr 0 0, .agg [.int .i64 q, .int .i64 q1, .int .i64 q2]] [.obj [.X0 1, .ptr 2 0, .own 3, .own 4, .fz D1 AA false, .int .i64 AB, .bool AC], .p0 G4 AG none, .obj [.map 5], .row P1 AD, .row L2 AE, .map (.int .i64) true P1 AF] (W6 6 [.gc, .X3 0 2 P1, .X3 0 3 L2, .S3 0 4 D1, .gc] K) := (fX fu _ _ _ _ _ _ _ _ _ _ _ _ _).trans (by kernel_rfl)
theorem s13 (fu : Nat) : N3 Try.prog 13 (t13 fu) := by
 refine y0 (T := ⟨(FF fu), gk fu⟩) (m := 6) (gout := [.gc, .X3 0 2 P1, .X3 0 3 L2, .S3 0 4 D1, .gc]) (k := 300) (T7 fu) (fun fn body hf hb => ?_) (fun R args s K r h => ?_) (fun R args s K r h => ?_)
 ·have hc : body = S4 := by
   have h1 : Try.prog.funcs[13]? = some Try.f13 := rfl
   rw [h1] at hf; cases hf
   have h2 : Try.f13.body = some S4 := rfl
   rw [h2] at hb; cases hb; rfl
  subst hc
  exact fun p told h b hb => by
   replace h : gk fu p = some told := h
   unfold gk at h
   split at h
   ·rename_i hp
    cases h
    have := B6 hp
    subst this
    rw [eR] at hb
    cases hb
    exact C3 (kn fu)
   ·
    cases h

 ·unfold t13 at h; split at h
  ·rfl
  ·cases h
 ·unfold t13 at h; split at h
  case h_2 => cases h
  iterate 5 (split at h; (case h_2 => cases h); rename_i hq; have hq := FT.J0 _ _ hq; subst hq)
  exact (e13 R K fu _ _ _ _ _ _ _ _ _ _).symm.trans h
def Xx (fu : Nat) : FuncId -> Option (Bool × J1) := fun f => match Nat.beq f 13 with
 | true => some (false, CA [.gc, .FN 0 0 G4, .X3 0 2 P1, .X3 0 3 L2, .S3 0 4 D1, .gc] (t13 fu))
 | false => (FF fu) f
theorem HL (fu : Nat) : C2 Try.prog (Xx fu) := by
 intro f own told h
 unfold Xx at h
 split at h
 ·rename_i hb
  cases h
  have := B6 hb
  subst this
  exact O1 (s13 fu)
 ·exact (T7 fu) f own told h
end Go.Proofs.Ythlbahcggmbfaaa.V
end
