/-
  No cell of these rows narrows 'for every input' (looked for: loops, veiled, ifaces, maps, wideKeys, modest, calm, conditions, laid).
  DERIVED. THE GIVEN ROWS OF THIS SEAT. 7 by the template 'for every input the law returns true; each argument reads behind the call as it read before'; 0 by the template 'total and deterministic' (their statements: YthlbahcggmbfaaaTotals.lean).
  GIVEN WITH THE SEED: the statements are not yours to turn. If you find one false, say at which input.
  Laid BY PROGRAM, IN A SANDBOX (cutbox-rows.mjs): the forced cells as the released guide's own fill.sh prints them over the translation 8b2fe9135ba28cf1… (all of the seat's roots in one cut). By AI agents, Wed Nov 11 2026. No macro, syntax, notation, axiom, sorry.
-/
import Derived.Test.YthlbahcggmbfaaaChecked
import GoSem.Claim
import GoSem.ClaimJoined
import GoSem.ClaimMapViews
import Derived.JoinedTies
import Derived.KernelRfl
namespace Go.Proofs.Ythlbahcggmbfaaa
/- THE CELL 'sum', in the pinned program and in every row, IS THE sha256 OF THE DUMP (.gsa) THAT YthlbahcggmbfaaaProg.lean LOADS. Nothing in Lean hashes anything: it is a label: what it is worth is what the hold of that sum in a sandbox is worth. -/
noncomputable def Try.pinned : Pinned := { name := "ythlbahcggmbfaaa", sum := "8b2fe9135ba28cf194240b596bee4355af9e9b7b7111d65b418dd37cd094db1a", checked := Try.checked }
namespace Rows
def none {H : Type} : Left H := { results := [], args := [] }

/-- 'daisychainlaw14.ChainAgrees': WHATEVER THE INPUT: true; the input reads as it did. -/
def chainAgreesSpec : ChangeSpec := { name := "chainAgrees", fn := fun _ => fun
  | [d1, d2] => { results := [.lit (.bool true)], args := [d1, d2] }
  | _ => none }
def chainAgreesRow : OpenClaim := { program := "ythlbahcggmbfaaa", sum := "8b2fe9135ba28cf194240b596bee4355af9e9b7b7111d65b418dd37cd094db1a", func := "daisychain/daisychainlaw14.ChainAgrees", spec := "chainAgrees", apart := false }
def ChainAgreesSaid : Prop := chainAgreesRow.holds Try.pinned (OpenSpec.ofChange chainAgreesSpec)

/-- ITS FALSE NEIGHBOUR: 'it returns false'. Refute it at one input. -/
def chainAgreesWrong : ChangeSpec := { name := "chainAgrees", fn := fun _ => fun
  | [d1, d2] => { results := [.lit (.bool false)], args := [d1, d2] }
  | _ => none }
def ChainAgreesWrongFalsely : Prop := chainAgreesRow.holds Try.pinned (OpenSpec.ofChange chainAgreesWrong)

/-- 'daisychainlaw14.ChainOnce': WHATEVER THE INPUT: true; the input reads as it did. -/
def chainOnceSpec : ChangeSpec := { name := "chainOnce", fn := fun _ => fun
  | [d1, d2] => { results := [.lit (.bool true)], args := [d1, d2] }
  | _ => none }
def chainOnceRow : OpenClaim := { program := "ythlbahcggmbfaaa", sum := "8b2fe9135ba28cf194240b596bee4355af9e9b7b7111d65b418dd37cd094db1a", func := "daisychain/daisychainlaw14.ChainOnce", spec := "chainOnce", apart := false }
def ChainOnceSaid : Prop := chainOnceRow.holds Try.pinned (OpenSpec.ofChange chainOnceSpec)

/-- ITS FALSE NEIGHBOUR: 'it returns false'. Refute it at one input. -/
def chainOnceWrong : ChangeSpec := { name := "chainOnce", fn := fun _ => fun
  | [d1, d2] => { results := [.lit (.bool false)], args := [d1, d2] }
  | _ => none }
def ChainOnceWrongFalsely : Prop := chainOnceRow.holds Try.pinned (OpenSpec.ofChange chainOnceWrong)

/-- 'daisychainlaw14.ChainCalm': WHATEVER THE INPUT: true; the input reads as it did. -/
def chainCalmSpec : ChangeSpec := { name := "chainCalm", fn := fun _ => fun
  | [d1, d2] => { results := [.lit (.bool true)], args := [d1, d2] }
  | _ => none }
def chainCalmRow : OpenClaim := { program := "ythlbahcggmbfaaa", sum := "8b2fe9135ba28cf194240b596bee4355af9e9b7b7111d65b418dd37cd094db1a", func := "daisychain/daisychainlaw14.ChainCalm", spec := "chainCalm", apart := false }
def ChainCalmSaid : Prop := chainCalmRow.holds Try.pinned (OpenSpec.ofChange chainCalmSpec)

/-- ITS FALSE NEIGHBOUR: 'it returns false'. Refute it at one input. -/
def chainCalmWrong : ChangeSpec := { name := "chainCalm", fn := fun _ => fun
  | [d1, d2] => { results := [.lit (.bool false)], args := [d1, d2] }
  | _ => none }
def ChainCalmWrongFalsely : Prop := chainCalmRow.holds Try.pinned (OpenSpec.ofChange chainCalmWrong)

/-- 'daisychainlaw14.ChainEpochs': WHATEVER THE INPUT: true; the input reads as it did. -/
def chainEpochsSpec : ChangeSpec := { name := "chainEpochs", fn := fun _ => fun
  | [d1, d2] => { results := [.lit (.bool true)], args := [d1, d2] }
  | _ => none }
def chainEpochsRow : OpenClaim := { program := "ythlbahcggmbfaaa", sum := "8b2fe9135ba28cf194240b596bee4355af9e9b7b7111d65b418dd37cd094db1a", func := "daisychain/daisychainlaw14.ChainEpochs", spec := "chainEpochs", apart := false }
def ChainEpochsSaid : Prop := chainEpochsRow.holds Try.pinned (OpenSpec.ofChange chainEpochsSpec)

/-- ITS FALSE NEIGHBOUR: 'it returns false'. Refute it at one input. -/
def chainEpochsWrong : ChangeSpec := { name := "chainEpochs", fn := fun _ => fun
  | [d1, d2] => { results := [.lit (.bool false)], args := [d1, d2] }
  | _ => none }
def ChainEpochsWrongFalsely : Prop := chainEpochsRow.holds Try.pinned (OpenSpec.ofChange chainEpochsWrong)

/-- 'daisychainlaw14.ChainStrange': WHATEVER THE INPUT: true; the input reads as it did. -/
def chainStrangeSpec : ChangeSpec := { name := "chainStrange", fn := fun _ => fun
  | [d1, d2, d3, d4] => { results := [.lit (.bool true)], args := [d1, d2, d3, d4] }
  | _ => none }
def chainStrangeRow : OpenClaim := { program := "ythlbahcggmbfaaa", sum := "8b2fe9135ba28cf194240b596bee4355af9e9b7b7111d65b418dd37cd094db1a", func := "daisychain/daisychainlaw14.ChainStrange", spec := "chainStrange", apart := false }
def ChainStrangeSaid : Prop := chainStrangeRow.holds Try.pinned (OpenSpec.ofChange chainStrangeSpec)

/-- ITS FALSE NEIGHBOUR: 'it returns false'. Refute it at one input. -/
def chainStrangeWrong : ChangeSpec := { name := "chainStrange", fn := fun _ => fun
  | [d1, d2, d3, d4] => { results := [.lit (.bool false)], args := [d1, d2, d3, d4] }
  | _ => none }
def ChainStrangeWrongFalsely : Prop := chainStrangeRow.holds Try.pinned (OpenSpec.ofChange chainStrangeWrong)

/-- 'daisychainlaw14.ChainKeeps': WHATEVER THE INPUT: true; the input reads as it did. -/
def chainKeepsSpec : ChangeSpec := { name := "chainKeeps", fn := fun _ => fun
  | [d1, d2, d3] => { results := [.lit (.bool true)], args := [d1, d2, d3] }
  | _ => none }
def chainKeepsRow : OpenClaim := { program := "ythlbahcggmbfaaa", sum := "8b2fe9135ba28cf194240b596bee4355af9e9b7b7111d65b418dd37cd094db1a", func := "daisychain/daisychainlaw14.ChainKeeps", spec := "chainKeeps", apart := false }
def ChainKeepsSaid : Prop := chainKeepsRow.holds Try.pinned (OpenSpec.ofChange chainKeepsSpec)

/-- ITS FALSE NEIGHBOUR: 'it returns false'. Refute it at one input. -/
def chainKeepsWrong : ChangeSpec := { name := "chainKeeps", fn := fun _ => fun
  | [d1, d2, d3] => { results := [.lit (.bool false)], args := [d1, d2, d3] }
  | _ => none }
def ChainKeepsWrongFalsely : Prop := chainKeepsRow.holds Try.pinned (OpenSpec.ofChange chainKeepsWrong)

/-- 'daisychainlaw14.ChainNew': WHATEVER THE INPUT: true; the input reads as it did. -/
def chainNewSpec : ChangeSpec := { name := "chainNew", fn := fun _ => fun
  | [d1, d2, d3] => { results := [.lit (.bool true)], args := [d1, d2, d3] }
  | _ => none }
def chainNewRow : OpenClaim := { program := "ythlbahcggmbfaaa", sum := "8b2fe9135ba28cf194240b596bee4355af9e9b7b7111d65b418dd37cd094db1a", func := "daisychain/daisychainlaw14.ChainNew", spec := "chainNew", apart := false }
def ChainNewSaid : Prop := chainNewRow.holds Try.pinned (OpenSpec.ofChange chainNewSpec)

/-- ITS FALSE NEIGHBOUR: 'it returns false'. Refute it at one input. -/
def chainNewWrong : ChangeSpec := { name := "chainNew", fn := fun _ => fun
  | [d1, d2, d3] => { results := [.lit (.bool false)], args := [d1, d2, d3] }
  | _ => none }
def ChainNewWrongFalsely : Prop := chainNewRow.holds Try.pinned (OpenSpec.ofChange chainNewWrong)

/- THE SECOND FORM. 'bulk': how many values and letters a reading holds, each counted each time it is reached (what is shared counts as often as it is met; a slice's spare places count too). A statement '..UptoSaid' is the law's where the arguments, and the package variables that the reading takes, are together of bulk at most 1048576: NARROWER than '..Said'. Prove '..Said' where nothing that the law and all that it calls make is longer than what came in: it says more and counts as full. Else prove '..UptoSaid'. A law counts once. -/
mutual
def uptoBulk {H : Type} : DataW H → Nat
  | .lit (.string bytes) => bytes.length + 1
  | .lit _ => 1
  | .nil => 1
  | .ptr d => uptoBulk d + 1
  | .slice elems spare => uptoBulkAll elems + uptoBulkAll spare + 1
  | .agg parts => uptoBulkAll parts + 1
  | .iface _ d => uptoBulk d + 1
  | .map entries => uptoBulkEntries entries + 1
  | .held _ => 1
def uptoBulkAll {H : Type} : List (DataW H) → Nat
  | [] => 0
  | d :: r => uptoBulk d + uptoBulkAll r
def uptoBulkEntries {H : Type} : List (Lit × DataW H) → Nat
  | [] => 0
  | x :: r => uptoBulkEntry x + uptoBulkEntries r
def uptoBulkEntry {H : Type} : Lit × DataW H → Nat
  | (.string bytes, d) => bytes.length + uptoBulk d + 1
  | (_, d) => uptoBulk d + 1
 end
def uptoSmall : (H : Type) → List (DataW H) → Bool := fun _ ds => decide (uptoBulkAll ds ≤ 1048576)
def OpenSpec.upto (s : _root_.Go.ChangeSpec) : _root_.Go.OpenSpec := { _root_.Go.OpenSpec.ofChange s with cond := some uptoSmall }

/-- 'daisychainlaw14.ChainAgrees', WHERE WHAT IT READS IS OF BULK AT MOST 1048576: true; the input reads as it did. -/
def chainAgreesUptoRow : OpenClaim := { program := "ythlbahcggmbfaaa", sum := "8b2fe9135ba28cf194240b596bee4355af9e9b7b7111d65b418dd37cd094db1a", func := "daisychain/daisychainlaw14.ChainAgrees", spec := "chainAgrees", apart := false, narrowed := true }
def ChainAgreesUptoSaid : Prop := chainAgreesUptoRow.holds Try.pinned (OpenSpec.upto chainAgreesSpec)

/-- 'daisychainlaw14.ChainOnce', WHERE WHAT IT READS IS OF BULK AT MOST 1048576: true; the input reads as it did. -/
def chainOnceUptoRow : OpenClaim := { program := "ythlbahcggmbfaaa", sum := "8b2fe9135ba28cf194240b596bee4355af9e9b7b7111d65b418dd37cd094db1a", func := "daisychain/daisychainlaw14.ChainOnce", spec := "chainOnce", apart := false, narrowed := true }
def ChainOnceUptoSaid : Prop := chainOnceUptoRow.holds Try.pinned (OpenSpec.upto chainOnceSpec)

/-- 'daisychainlaw14.ChainCalm', WHERE WHAT IT READS IS OF BULK AT MOST 1048576: true; the input reads as it did. -/
def chainCalmUptoRow : OpenClaim := { program := "ythlbahcggmbfaaa", sum := "8b2fe9135ba28cf194240b596bee4355af9e9b7b7111d65b418dd37cd094db1a", func := "daisychain/daisychainlaw14.ChainCalm", spec := "chainCalm", apart := false, narrowed := true }
def ChainCalmUptoSaid : Prop := chainCalmUptoRow.holds Try.pinned (OpenSpec.upto chainCalmSpec)

/-- 'daisychainlaw14.ChainEpochs', WHERE WHAT IT READS IS OF BULK AT MOST 1048576: true; the input reads as it did. -/
def chainEpochsUptoRow : OpenClaim := { program := "ythlbahcggmbfaaa", sum := "8b2fe9135ba28cf194240b596bee4355af9e9b7b7111d65b418dd37cd094db1a", func := "daisychain/daisychainlaw14.ChainEpochs", spec := "chainEpochs", apart := false, narrowed := true }
def ChainEpochsUptoSaid : Prop := chainEpochsUptoRow.holds Try.pinned (OpenSpec.upto chainEpochsSpec)

/-- 'daisychainlaw14.ChainStrange', WHERE WHAT IT READS IS OF BULK AT MOST 1048576: true; the input reads as it did. -/
def chainStrangeUptoRow : OpenClaim := { program := "ythlbahcggmbfaaa", sum := "8b2fe9135ba28cf194240b596bee4355af9e9b7b7111d65b418dd37cd094db1a", func := "daisychain/daisychainlaw14.ChainStrange", spec := "chainStrange", apart := false, narrowed := true }
def ChainStrangeUptoSaid : Prop := chainStrangeUptoRow.holds Try.pinned (OpenSpec.upto chainStrangeSpec)

/-- 'daisychainlaw14.ChainKeeps', WHERE WHAT IT READS IS OF BULK AT MOST 1048576: true; the input reads as it did. -/
def chainKeepsUptoRow : OpenClaim := { program := "ythlbahcggmbfaaa", sum := "8b2fe9135ba28cf194240b596bee4355af9e9b7b7111d65b418dd37cd094db1a", func := "daisychain/daisychainlaw14.ChainKeeps", spec := "chainKeeps", apart := false, narrowed := true }
def ChainKeepsUptoSaid : Prop := chainKeepsUptoRow.holds Try.pinned (OpenSpec.upto chainKeepsSpec)

/-- 'daisychainlaw14.ChainNew', WHERE WHAT IT READS IS OF BULK AT MOST 1048576: true; the input reads as it did. -/
def chainNewUptoRow : OpenClaim := { program := "ythlbahcggmbfaaa", sum := "8b2fe9135ba28cf194240b596bee4355af9e9b7b7111d65b418dd37cd094db1a", func := "daisychain/daisychainlaw14.ChainNew", spec := "chainNew", apart := false, narrowed := true }
def ChainNewUptoSaid : Prop := chainNewUptoRow.holds Try.pinned (OpenSpec.upto chainNewSpec)

end Rows
end Go.Proofs.Ythlbahcggmbfaaa
