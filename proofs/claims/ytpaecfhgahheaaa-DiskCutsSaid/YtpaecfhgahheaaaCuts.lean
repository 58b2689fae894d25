/- WHAT IS PROVED: the call of DiskCuts answers true, and leaves its arguments as they were, at every input that the given row takes. No condition of its own. -/
import Derived.Test.YtpaecfhgahheaaaMid2
import Derived.Test.YtpaecfhgahheaaaChecked
import Derived.ProofKit
import Derived.KernelRfl
import Derived.Test.YtpaecfhgahheaaaRows
set_option linter.unusedVariables false
set_option linter.unusedSimpArgs false

/- What all joins use. -/
namespace Go.Proofs.Ytpaecfhgahheaaa
theorem Try.own : ownKnob Try.prog.godebug = none := by kernel_rfl
theorem Try.laidOut : laidOutB Try.prog = true := by kernel_rfl
end Go.Proofs.Ytpaecfhgahheaaa

/- Where V's law of function 4 stands, the given row stands. -/
namespace Go.Proofs.Ytpaecfhgahheaaa
open Go.ChangeShapes Go.WideShapes Go.ChangeAt Go.RowKit

set_option maxRecDepth 100000 in
theorem cuts_lifted (law : V.Law Try.prog 4 Try.f4.params.toList) (os : Os) (started : os.Started) (H : Type) (enc : TypeId × Value → H) :
    ReturnsInHanded {} Try.checked os 4 .any (Rows.diskCutsSpec.pre6 enc Try.prog Try.f4 Rows.diskCutsRow.domain false) (Rows.diskCutsSpec.post enc Try.prog Try.f4 false true false false) := by
  refine V.lift (C := Try.checked) enc Try.own started (by kernel_rfl) Try.func4
    (ChangeSpec.witness6 (enc := enc) (C := Try.checked) false ⟨#[], #[.slice none 0 0, .slice none 0 0, .int .i64 0], []⟩ 8 (by kernel_rfl) (by kernel_rfl) (by kernel_rfl) (by kernel_rfl)) rfl (fun ds h => ?_) rfl (by kernel_rfl) Try.laidOut (by kernel_rfl) law
  have h : ds.length = 3 := h
  match ds, h with
  | [d1, d2, d3], _ => rfl

theorem cuts_join (law : V.Law Try.prog 4 Try.f4.params.toList) : Rows.DiskCutsSaid :=
  OpenClaim.holds_of_wide 4 Try.f4 rfl rfl rfl rfl rfl rfl rfl ⟨rfl, rfl, rfl, rfl, rfl⟩ rfl rfl rfl rfl rfl (by kernel_rfl) Try.func4 (by kernel_rfl)
    (of_decide_eq_true (by kernel_rfl)) (by unfold Func.isWrapper; first | (rw [if_pos (by decide +kernel)]; kernel_rfl) | (rw [if_neg (by decide +kernel)]; exact ⟨rfl, rfl⟩))
    (fun os started H enc _ => cuts_lifted law os started H enc)

end Go.Proofs.Ytpaecfhgahheaaa

/- From the plain law of function 4 to V's. -/
namespace Go.Proofs.Ytpaecfhgahheaaa.V

theorem law4 (fu : Nat) (H : ∀ (ds1 ds2 ds3 : List D), WFDs ft2 ds1 → WFDs ft2 ds2 → WFDs ft3 ds3 → F4 fu ((cell 0 ds1).toRows) ((cell 0 ds2).toRows) ((cell 0 ds3).toInt) (fun o => some o) = some true) : Law Try.prog 4 Try.f4.params.toList := by
  refine law_of_told (by kernel_rfl) (by kernel_rfl) seatX_sound (s4 fu) (fun dss hw => ?_)
  have hts : Try.f4.params.toList = [27, 27, 3] := rfl
  rw [hts] at hw
  cases hw with
  | cons t1 ts1 fts1 ds1 dss1 hf1 hd1 hr1 =>
    have e1 : flat Try.prog 20 27 = some ft2 := by kernel_rfl
    rw [e1] at hf1; cases hf1
    cases hr1 with
    | cons t2 ts2 fts2 ds2 dss2 hf2 hd2 hr2 =>
      have e2 : flat Try.prog 20 27 = some ft2 := by kernel_rfl
      rw [e2] at hf2; cases hf2
      cases hr2 with
      | cons t3 ts3 fts3 ds3 dss3 hf3 hd3 hr3 =>
        have e3 : flat Try.prog 20 3 = some ft3 := by kernel_rfl
        rw [e3] at hf3; cases hf3
        cases hr3
        have h1 : t4 fu Bool (argsU Try.prog Try.f4.params.toList [ds1, ds2, ds3]) [] boolK = F4 fu ((cell 0 ds1).toRows) ((cell 0 ds2).toRows) ((cell 0 ds3).toInt) (fun o => some o) := by kernel_rfl
        exact h1.trans (H ds1 ds2 ds3 hd1 hd2 hd3)
end Go.Proofs.Ytpaecfhgahheaaa.V

namespace Go.Proofs.Ytpaecfhgahheaaa

theorem cuts_holds : Rows.DiskCutsSaid := cuts_join (V.law4 5000 fun _ _ _ h1 h2 _ => V.cuts4 (by omega) _ _ _ (V.row_sz (h1.cell (j := 0) rfl)) (V.row_sz (h2.cell (j := 0) rfl)) _)

end Go.Proofs.Ytpaecfhgahheaaa

