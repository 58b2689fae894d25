/- WHAT IS PROVED: the call of DiskApart answers true, and leaves its arguments as they were, at every input that the given row takes. No condition of its own. -/
import Derived.Test.YtpaecfhgahheaaaMid2
import Derived.Test.YtpaecfhgahheaaaChecked
import Derived.ProofKit
import Derived.KernelRfl
import Derived.Test.YtpaecfhgahheaaaRows
set_option linter.unusedVariables false
set_option linter.unusedSimpArgs false

/- What all joins use. -/
namespace Go.Proofs.Ytpaecfhgahheaaa
theorem Try.own : ownKnob Try.prog.godebug = none := by kernel_rfl
theorem Try.laidOut : laidOutB Try.prog = true := by kernel_rfl
end Go.Proofs.Ytpaecfhgahheaaa

/- Where V's law of function 7 stands, the given row stands. -/
namespace Go.Proofs.Ytpaecfhgahheaaa
open Go.ChangeShapes Go.WideShapes Go.ChangeAt Go.RowKit

set_option maxRecDepth 100000 in
theorem apart_lifted (law : V.Law Try.prog 7 Try.f7.params.toList) (os : Os) (started : os.Started) (H : Type) (enc : TypeId × Value → H) :
    ReturnsInHanded {} Try.checked os 7 .any (Rows.diskApartSpec.pre6 enc Try.prog Try.f7 Rows.diskApartRow.domain false) (Rows.diskApartSpec.post enc Try.prog Try.f7 false true false false) := by
  refine V.lift (C := Try.checked) enc Try.own started (by kernel_rfl) Try.func7
    (ChangeSpec.witness6 (enc := enc) (C := Try.checked) false ⟨#[], #[.slice none 0 0, .agg #[.int .i64 0, .string .empty, .string .empty, .slice none 0 0, .int .i64 0, .slice none 0 0]], []⟩ 8 (by kernel_rfl) (by kernel_rfl) (by kernel_rfl) (by kernel_rfl)) rfl (fun ds h => ?_) rfl (by kernel_rfl) Try.laidOut (by kernel_rfl) law
  have h : ds.length = 2 := h
  match ds, h with
  | [d1, d2], _ => rfl

theorem apart_join (law : V.Law Try.prog 7 Try.f7.params.toList) : Rows.DiskApartSaid :=
  OpenClaim.holds_of_wide 7 Try.f7 rfl rfl rfl rfl rfl rfl rfl ⟨rfl, rfl, rfl, rfl, rfl⟩ rfl rfl rfl rfl rfl (by kernel_rfl) Try.func7 (by kernel_rfl)
    (of_decide_eq_true (by kernel_rfl)) (by unfold Func.isWrapper; first | (rw [if_pos (by decide +kernel)]; kernel_rfl) | (rw [if_neg (by decide +kernel)]; exact ⟨rfl, rfl⟩))
    (fun os started H enc _ => apart_lifted law os started H enc)

end Go.Proofs.Ytpaecfhgahheaaa

/- From the plain law of function 7 to V's. -/
namespace Go.Proofs.Ytpaecfhgahheaaa.V

theorem law7 (fu : Nat) (H : ∀ (ds1 ds2 : List D), WFDs [FT.row 96 [FT.int IntKind.i64, FT.str, FT.str, FT.row 1 [FT.int IntKind.u8], FT.int IntKind.i64, FT.row 8 [FT.int IntKind.i64]]] ds1 → WFDs ft7 ds2 → F7 fu ((cell 0 ds1).toRows) [D.int (cell 0 ds2).toInt, D.str (cell 1 ds2).toStr, D.str (cell 2 ds2).toStr, D.row (cell 3 ds2).toRows, D.int (cell 4 ds2).toInt, D.row (cell 5 ds2).toRows] (fun o => some o) = some true) : Law Try.prog 7 Try.f7.params.toList := by
  refine law_of_told (by kernel_rfl) (by kernel_rfl) seatX_sound (s7 fu) (fun dss hw => ?_)
  have hts : Try.f7.params.toList = [41, 49] := rfl
  rw [hts] at hw
  cases hw with
  | cons t1 ts1 fts1 ds1 dss1 hf1 hd1 hr1 =>
    have e1 : flat Try.prog 20 41 = some [FT.row 96 [FT.int IntKind.i64, FT.str, FT.str, FT.row 1 [FT.int IntKind.u8], FT.int IntKind.i64, FT.row 8 [FT.int IntKind.i64]]] := by kernel_rfl
    rw [e1] at hf1; cases hf1
    cases hr1 with
    | cons t2 ts2 fts2 ds2 dss2 hf2 hd2 hr2 =>
      have e2 : flat Try.prog 20 49 = some ft7 := by kernel_rfl
      rw [e2] at hf2; cases hf2
      cases hr2
      have h1 : t7 fu Bool (argsU Try.prog Try.f7.params.toList [ds1, ds2]) [] boolK = F7 fu ((cell 0 ds1).toRows) [D.int (cell 0 ds2).toInt, D.str (cell 1 ds2).toStr, D.str (cell 2 ds2).toStr, D.row (cell 3 ds2).toRows, D.int (cell 4 ds2).toInt, D.row (cell 5 ds2).toRows] (fun o => some o) := by kernel_rfl
      exact h1.trans (H ds1 ds2 hd1 hd2)
end Go.Proofs.Ytpaecfhgahheaaa.V

namespace Go.Proofs.Ytpaecfhgahheaaa

theorem apart_holds : Rows.DiskApartSaid := apart_join (V.law7 5000 fun _ ds2 h1 h2 => V.apart7 (by omega) _ (V.ops_of (h1.cell (j := 0) rfl)) (V.NO ds2) (V.ops_one h2) _)

end Go.Proofs.Ytpaecfhgahheaaa

