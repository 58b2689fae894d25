/- WHAT IS PROVED: the call of DiskKeeps answers true, and leaves its arguments as they were, at every input that the given row takes. No condition of its own. -/
import Derived.Test.YtpaecfhgahheaaaMid2
import Derived.Test.YtpaecfhgahheaaaChecked
import Derived.ProofKit
import Derived.KernelRfl
import Derived.Test.YtpaecfhgahheaaaRows
set_option linter.unusedVariables false
set_option linter.unusedSimpArgs false

/- What all joins use. -/
namespace Go.Proofs.Ytpaecfhgahheaaa
theorem Try.own : ownKnob Try.prog.godebug = none := by kernel_rfl
theorem Try.laidOut : laidOutB Try.prog = true := by kernel_rfl
end Go.Proofs.Ytpaecfhgahheaaa

/- Where V's law of function 8 stands, the given row stands. -/
namespace Go.Proofs.Ytpaecfhgahheaaa
open Go.ChangeShapes Go.WideShapes Go.ChangeAt Go.RowKit

set_option maxRecDepth 100000 in
theorem keeps_lifted (law : V.Law Try.prog 8 Try.f8.params.toList) (os : Os) (started : os.Started) (H : Type) (enc : TypeId × Value → H) :
    ReturnsInHanded {} Try.checked os 8 .any (Rows.diskKeepsSpec.pre6 enc Try.prog Try.f8 Rows.diskKeepsRow.domain false) (Rows.diskKeepsSpec.post enc Try.prog Try.f8 false true false false) := by
  refine V.lift (C := Try.checked) enc Try.own started (by kernel_rfl) Try.func8
    (ChangeSpec.witness6 (enc := enc) (C := Try.checked) false ⟨#[], #[.int .i64 0, .slice none 0 0, .slice none 0 0], []⟩ 8 (by kernel_rfl) (by kernel_rfl) (by kernel_rfl) (by kernel_rfl)) rfl (fun ds h => ?_) rfl (by kernel_rfl) Try.laidOut (by kernel_rfl) law
  have h : ds.length = 3 := h
  match ds, h with
  | [d1, d2, d3], _ => rfl

theorem keeps_join (law : V.Law Try.prog 8 Try.f8.params.toList) : Rows.DiskKeepsSaid :=
  OpenClaim.holds_of_wide 8 Try.f8 rfl rfl rfl rfl rfl rfl rfl ⟨rfl, rfl, rfl, rfl, rfl⟩ rfl rfl rfl rfl rfl (by kernel_rfl) Try.func8 (by kernel_rfl)
    (of_decide_eq_true (by kernel_rfl)) (by unfold Func.isWrapper; first | (rw [if_pos (by decide +kernel)]; kernel_rfl) | (rw [if_neg (by decide +kernel)]; exact ⟨rfl, rfl⟩))
    (fun os started H enc _ => keeps_lifted law os started H enc)

end Go.Proofs.Ytpaecfhgahheaaa

/- From the plain law of function 8 to V's. -/
namespace Go.Proofs.Ytpaecfhgahheaaa.V

theorem law8 (fu : Nat) (H : ∀ (ds1 ds2 ds3 : List D), WFDs ft3 ds1 → WFDs [FT.row 96 [FT.int IntKind.i64, FT.str, FT.str, FT.row 1 [FT.int IntKind.u8], FT.int IntKind.i64, FT.row 8 [FT.int IntKind.i64]]] ds2 → WFDs [FT.row 8 [FT.int IntKind.i64]] ds3 → F8 fu ((cell 0 ds1).toInt) ((cell 0 ds2).toRows) ((cell 0 ds3).toRows) (fun o => some o) = some true) : Law Try.prog 8 Try.f8.params.toList := by
  refine law_of_told (by kernel_rfl) (by kernel_rfl) seatX_sound (s8 fu) (fun dss hw => ?_)
  have hts : Try.f8.params.toList = [3, 41, 47] := rfl
  rw [hts] at hw
  cases hw with
  | cons t1 ts1 fts1 ds1 dss1 hf1 hd1 hr1 =>
    have e1 : flat Try.prog 20 3 = some ft3 := by kernel_rfl
    rw [e1] at hf1; cases hf1
    cases hr1 with
    | cons t2 ts2 fts2 ds2 dss2 hf2 hd2 hr2 =>
      have e2 : flat Try.prog 20 41 = some [FT.row 96 [FT.int IntKind.i64, FT.str, FT.str, FT.row 1 [FT.int IntKind.u8], FT.int IntKind.i64, FT.row 8 [FT.int IntKind.i64]]] := by kernel_rfl
      rw [e2] at hf2; cases hf2
      cases hr2 with
      | cons t3 ts3 fts3 ds3 dss3 hf3 hd3 hr3 =>
        have e3 : flat Try.prog 20 47 = some [FT.row 8 [FT.int IntKind.i64]] := by kernel_rfl
        rw [e3] at hf3; cases hf3
        cases hr3
        have h1 : t8 fu Bool (argsU Try.prog Try.f8.params.toList [ds1, ds2, ds3]) [] boolK = F8 fu ((cell 0 ds1).toInt) ((cell 0 ds2).toRows) ((cell 0 ds3).toRows) (fun o => some o) := by kernel_rfl
        exact h1.trans (H ds1 ds2 ds3 hd1 hd2 hd3)
end Go.Proofs.Ytpaecfhgahheaaa.V

namespace Go.Proofs.Ytpaecfhgahheaaa

theorem keeps_holds : Rows.DiskKeepsSaid := keeps_join (V.law8 5000 fun _ _ _ _ h2 _ => V.keeps8 (by omega) _ _ (V.ops_of (h2.cell (j := 0) rfl)) _ _)

end Go.Proofs.Ytpaecfhgahheaaa

