/-
  No cell of these rows narrows 'for every input' (looked for: loops, veiled, ifaces, maps, wideKeys, modest, calm, conditions, laid).
  DERIVED. THE GIVEN ROWS OF THIS SEAT. 12 by the template 'for every input the law returns true; each argument reads behind the call as it read before'; 0 by the template 'total and deterministic' (their statements: YtdoikghgblohjaaTotals.lean).
  GIVEN WITH THE SEED: the statements are not yours to turn. If you find one false, say at which input.
  Laid BY PROGRAM, IN A SANDBOX (cutbox-rows.mjs): the forced cells as the released guide's own fill.sh prints them over the translation d0c80da81e3c05d4… (all of the seat's roots in one cut). By AI agents, Wed Nov 11 2026. No macro, syntax, notation, axiom, sorry.
-/
import Derived.Test.YtdoikghgblohjaaChecked
import GoSem.Claim
import GoSem.ClaimJoined
import GoSem.ClaimMapViews
import Derived.JoinedTies
import Derived.KernelRfl
namespace Go.Proofs.Ytdoikghgblohjaa
/- THE CELL 'sum', in the pinned program and in every row, IS THE sha256 OF THE DUMP (.gsa) THAT YtdoikghgblohjaaProg.lean LOADS. Nothing in Lean hashes anything: it is a label: what it is worth is what the hold of that sum in a sandbox is worth. -/
noncomputable def Try.pinned : Pinned := { name := "ytdoikghgblohjaa", sum := "d0c80da81e3c05d49f874778189ec71c24509ee568096c9baad6baa55096074c", checked := Try.checked }
namespace Rows
def none {H : Type} : Left H := { results := [], args := [] }

/-- 'daisychainlaw18.ClientOwn': WHATEVER THE INPUT: true; the input reads as it did. -/
def clientOwnSpec : ChangeSpec := { name := "clientOwn", fn := fun _ => fun
  | [d1, d2] => { results := [.lit (.bool true)], args := [d1, d2] }
  | _ => none }
def clientOwnRow : OpenClaim := { program := "ytdoikghgblohjaa", sum := "d0c80da81e3c05d49f874778189ec71c24509ee568096c9baad6baa55096074c", func := "daisychain/daisychainlaw18.ClientOwn", spec := "clientOwn", apart := false }
def ClientOwnSaid : Prop := clientOwnRow.holds Try.pinned (OpenSpec.ofChange clientOwnSpec)

/-- ITS FALSE NEIGHBOUR: 'it returns false'. Refute it at one input. -/
def clientOwnWrong : ChangeSpec := { name := "clientOwn", fn := fun _ => fun
  | [d1, d2] => { results := [.lit (.bool false)], args := [d1, d2] }
  | _ => none }
def ClientOwnWrongFalsely : Prop := clientOwnRow.holds Try.pinned (OpenSpec.ofChange clientOwnWrong)

/-- 'daisychainlaw18.ClientCounts': WHATEVER THE INPUT: true; the input reads as it did. -/
def clientCountsSpec : ChangeSpec := { name := "clientCounts", fn := fun _ => fun
  | [d1, d2] => { results := [.lit (.bool true)], args := [d1, d2] }
  | _ => none }
def clientCountsRow : OpenClaim := { program := "ytdoikghgblohjaa", sum := "d0c80da81e3c05d49f874778189ec71c24509ee568096c9baad6baa55096074c", func := "daisychain/daisychainlaw18.ClientCounts", spec := "clientCounts", apart := false }
def ClientCountsSaid : Prop := clientCountsRow.holds Try.pinned (OpenSpec.ofChange clientCountsSpec)

/-- ITS FALSE NEIGHBOUR: 'it returns false'. Refute it at one input. -/
def clientCountsWrong : ChangeSpec := { name := "clientCounts", fn := fun _ => fun
  | [d1, d2] => { results := [.lit (.bool false)], args := [d1, d2] }
  | _ => none }
def ClientCountsWrongFalsely : Prop := clientCountsRow.holds Try.pinned (OpenSpec.ofChange clientCountsWrong)

/-- 'daisychainlaw18.ClientOpens': WHATEVER THE INPUT: true; the input reads as it did. -/
def clientOpensSpec : ChangeSpec := { name := "clientOpens", fn := fun _ => fun
  | [d1, d2, d3] => { results := [.lit (.bool true)], args := [d1, d2, d3] }
  | _ => none }
def clientOpensRow : OpenClaim := { program := "ytdoikghgblohjaa", sum := "d0c80da81e3c05d49f874778189ec71c24509ee568096c9baad6baa55096074c", func := "daisychain/daisychainlaw18.ClientOpens", spec := "clientOpens", apart := false }
def ClientOpensSaid : Prop := clientOpensRow.holds Try.pinned (OpenSpec.ofChange clientOpensSpec)

/-- ITS FALSE NEIGHBOUR: 'it returns false'. Refute it at one input. -/
def clientOpensWrong : ChangeSpec := { name := "clientOpens", fn := fun _ => fun
  | [d1, d2, d3] => { results := [.lit (.bool false)], args := [d1, d2, d3] }
  | _ => none }
def ClientOpensWrongFalsely : Prop := clientOpensRow.holds Try.pinned (OpenSpec.ofChange clientOpensWrong)

/-- 'daisychainlaw18.ClientCalls': WHATEVER THE INPUT: true; the input reads as it did. -/
def clientCallsSpec : ChangeSpec := { name := "clientCalls", fn := fun _ => fun
  | [d1, d2, d3] => { results := [.lit (.bool true)], args := [d1, d2, d3] }
  | _ => none }
def clientCallsRow : OpenClaim := { program := "ytdoikghgblohjaa", sum := "d0c80da81e3c05d49f874778189ec71c24509ee568096c9baad6baa55096074c", func := "daisychain/daisychainlaw18.ClientCalls", spec := "clientCalls", apart := false }
def ClientCallsSaid : Prop := clientCallsRow.holds Try.pinned (OpenSpec.ofChange clientCallsSpec)

/-- ITS FALSE NEIGHBOUR: 'it returns false'. Refute it at one input. -/
def clientCallsWrong : ChangeSpec := { name := "clientCalls", fn := fun _ => fun
  | [d1, d2, d3] => { results := [.lit (.bool false)], args := [d1, d2, d3] }
  | _ => none }
def ClientCallsWrongFalsely : Prop := clientCallsRow.holds Try.pinned (OpenSpec.ofChange clientCallsWrong)

/-- 'daisychainlaw01.CoilApart': WHATEVER THE INPUT: true; the input reads as it did. -/
def coilApartSpec : ChangeSpec := { name := "coilApart", fn := fun _ => fun
  | [d1, d2, d3, d4] => { results := [.lit (.bool true)], args := [d1, d2, d3, d4] }
  | _ => none }
def coilApartRow : OpenClaim := { program := "ytdoikghgblohjaa", sum := "d0c80da81e3c05d49f874778189ec71c24509ee568096c9baad6baa55096074c", func := "daisychain/daisychainlaw01.CoilApart", spec := "coilApart", apart := false }
def CoilApartSaid : Prop := coilApartRow.holds Try.pinned (OpenSpec.ofChange coilApartSpec)

/-- ITS FALSE NEIGHBOUR: 'it returns false'. Refute it at one input. -/
def coilApartWrong : ChangeSpec := { name := "coilApart", fn := fun _ => fun
  | [d1, d2, d3, d4] => { results := [.lit (.bool false)], args := [d1, d2, d3, d4] }
  | _ => none }
def CoilApartWrongFalsely : Prop := coilApartRow.holds Try.pinned (OpenSpec.ofChange coilApartWrong)

/-- 'daisychainlaw01.CoilWrites': WHATEVER THE INPUT: true; the input reads as it did. -/
def coilWritesSpec : ChangeSpec := { name := "coilWrites", fn := fun _ => fun
  | [d1, d2, d3, d4] => { results := [.lit (.bool true)], args := [d1, d2, d3, d4] }
  | _ => none }
def coilWritesRow : OpenClaim := { program := "ytdoikghgblohjaa", sum := "d0c80da81e3c05d49f874778189ec71c24509ee568096c9baad6baa55096074c", func := "daisychain/daisychainlaw01.CoilWrites", spec := "coilWrites", recurses := true, apart := false }
def CoilWritesSaid : Prop := coilWritesRow.holds Try.pinned (OpenSpec.ofChange coilWritesSpec)

/-- ITS FALSE NEIGHBOUR: 'it returns false'. Refute it at one input. -/
def coilWritesWrong : ChangeSpec := { name := "coilWrites", fn := fun _ => fun
  | [d1, d2, d3, d4] => { results := [.lit (.bool false)], args := [d1, d2, d3, d4] }
  | _ => none }
def CoilWritesWrongFalsely : Prop := coilWritesRow.holds Try.pinned (OpenSpec.ofChange coilWritesWrong)

/-- 'daisychainlaw01.CoilRows': WHATEVER THE INPUT: true; the input reads as it did. -/
def coilRowsSpec : ChangeSpec := { name := "coilRows", fn := fun _ => fun
  | [d] => { results := [.lit (.bool true)], args := [d] }
  | _ => none }
def coilRowsRow : OpenClaim := { program := "ytdoikghgblohjaa", sum := "d0c80da81e3c05d49f874778189ec71c24509ee568096c9baad6baa55096074c", func := "daisychain/daisychainlaw01.CoilRows", spec := "coilRows", apart := false }
def CoilRowsSaid : Prop := coilRowsRow.holds Try.pinned (OpenSpec.ofChange coilRowsSpec)

/-- ITS FALSE NEIGHBOUR: 'it returns false'. Refute it at one input. -/
def coilRowsWrong : ChangeSpec := { name := "coilRows", fn := fun _ => fun
  | [d] => { results := [.lit (.bool false)], args := [d] }
  | _ => none }
def CoilRowsWrongFalsely : Prop := coilRowsRow.holds Try.pinned (OpenSpec.ofChange coilRowsWrong)

/-- 'daisychainlaw11.EntryNewer': WHATEVER THE INPUT: true; the input reads as it did. -/
def entryNewerSpec : ChangeSpec := { name := "entryNewer", fn := fun _ => fun
  | [d1, d2, d3, d4] => { results := [.lit (.bool true)], args := [d1, d2, d3, d4] }
  | _ => none }
def entryNewerRow : OpenClaim := { program := "ytdoikghgblohjaa", sum := "d0c80da81e3c05d49f874778189ec71c24509ee568096c9baad6baa55096074c", func := "daisychain/daisychainlaw11.EntryNewer", spec := "entryNewer", recurses := true, apart := false }
def EntryNewerSaid : Prop := entryNewerRow.holds Try.pinned (OpenSpec.ofChange entryNewerSpec)

/-- ITS FALSE NEIGHBOUR: 'it returns false'. Refute it at one input. -/
def entryNewerWrong : ChangeSpec := { name := "entryNewer", fn := fun _ => fun
  | [d1, d2, d3, d4] => { results := [.lit (.bool false)], args := [d1, d2, d3, d4] }
  | _ => none }
def EntryNewerWrongFalsely : Prop := entryNewerRow.holds Try.pinned (OpenSpec.ofChange entryNewerWrong)

/-- 'daisychainlaw01.CoilBack': WHATEVER THE INPUT: true; the input reads as it did. -/
def coilBackSpec : ChangeSpec := { name := "coilBack", fn := fun _ => fun
  | [d1, d2, d3] => { results := [.lit (.bool true)], args := [d1, d2, d3] }
  | _ => none }
def coilBackRow : OpenClaim := { program := "ytdoikghgblohjaa", sum := "d0c80da81e3c05d49f874778189ec71c24509ee568096c9baad6baa55096074c", func := "daisychain/daisychainlaw01.CoilBack", spec := "coilBack", apart := false }
def CoilBackSaid : Prop := coilBackRow.holds Try.pinned (OpenSpec.ofChange coilBackSpec)

/-- ITS FALSE NEIGHBOUR: 'it returns false'. Refute it at one input. -/
def coilBackWrong : ChangeSpec := { name := "coilBack", fn := fun _ => fun
  | [d1, d2, d3] => { results := [.lit (.bool false)], args := [d1, d2, d3] }
  | _ => none }
def CoilBackWrongFalsely : Prop := coilBackRow.holds Try.pinned (OpenSpec.ofChange coilBackWrong)

/-- 'daisychainlaw11.EntryAdds': WHATEVER THE INPUT: true; the input reads as it did. -/
def entryAddsSpec : ChangeSpec := { name := "entryAdds", fn := fun _ => fun
  | [d1, d2] => { results := [.lit (.bool true)], args := [d1, d2] }
  | _ => none }
def entryAddsRow : OpenClaim := { program := "ytdoikghgblohjaa", sum := "d0c80da81e3c05d49f874778189ec71c24509ee568096c9baad6baa55096074c", func := "daisychain/daisychainlaw11.EntryAdds", spec := "entryAdds", recurses := true, apart := false }
def EntryAddsSaid : Prop := entryAddsRow.holds Try.pinned (OpenSpec.ofChange entryAddsSpec)

/-- ITS FALSE NEIGHBOUR: 'it returns false'. Refute it at one input. -/
def entryAddsWrong : ChangeSpec := { name := "entryAdds", fn := fun _ => fun
  | [d1, d2] => { results := [.lit (.bool false)], args := [d1, d2] }
  | _ => none }
def EntryAddsWrongFalsely : Prop := entryAddsRow.holds Try.pinned (OpenSpec.ofChange entryAddsWrong)

/-- 'daisychainlaw11.EntryMatches': WHATEVER THE INPUT: true; the input reads as it did. -/
def entryMatchesSpec : ChangeSpec := { name := "entryMatches", fn := fun _ => fun
  | [d1, d2, d3] => { results := [.lit (.bool true)], args := [d1, d2, d3] }
  | _ => none }
def entryMatchesRow : OpenClaim := { program := "ytdoikghgblohjaa", sum := "d0c80da81e3c05d49f874778189ec71c24509ee568096c9baad6baa55096074c", func := "daisychain/daisychainlaw11.EntryMatches", spec := "entryMatches", recurses := true, apart := false }
def EntryMatchesSaid : Prop := entryMatchesRow.holds Try.pinned (OpenSpec.ofChange entryMatchesSpec)

/-- ITS FALSE NEIGHBOUR: 'it returns false'. Refute it at one input. -/
def entryMatchesWrong : ChangeSpec := { name := "entryMatches", fn := fun _ => fun
  | [d1, d2, d3] => { results := [.lit (.bool false)], args := [d1, d2, d3] }
  | _ => none }
def EntryMatchesWrongFalsely : Prop := entryMatchesRow.holds Try.pinned (OpenSpec.ofChange entryMatchesWrong)

/-- 'daisychainlaw11.EntryCopies': WHATEVER THE INPUT: true; the input reads as it did. -/
def entryCopiesSpec : ChangeSpec := { name := "entryCopies", fn := fun _ => fun
  | [d1, d2] => { results := [.lit (.bool true)], args := [d1, d2] }
  | _ => none }
def entryCopiesRow : OpenClaim := { program := "ytdoikghgblohjaa", sum := "d0c80da81e3c05d49f874778189ec71c24509ee568096c9baad6baa55096074c", func := "daisychain/daisychainlaw11.EntryCopies", spec := "entryCopies", recurses := true, apart := false }
def EntryCopiesSaid : Prop := entryCopiesRow.holds Try.pinned (OpenSpec.ofChange entryCopiesSpec)

/-- ITS FALSE NEIGHBOUR: 'it returns false'. Refute it at one input. -/
def entryCopiesWrong : ChangeSpec := { name := "entryCopies", fn := fun _ => fun
  | [d1, d2] => { results := [.lit (.bool false)], args := [d1, d2] }
  | _ => none }
def EntryCopiesWrongFalsely : Prop := entryCopiesRow.holds Try.pinned (OpenSpec.ofChange entryCopiesWrong)

/- THE SECOND FORM. 'bulk': how many values and letters a reading holds, each counted each time it is reached (what is shared counts as often as it is met; a slice's spare places count too). A statement '..UptoSaid' is the law's where the arguments, and the package variables that the reading takes, are together of bulk at most 1048576: NARROWER than '..Said'. Prove '..Said' where nothing that the law and all that it calls make is longer than what came in: it says more and counts as full. Else prove '..UptoSaid'. A law counts once. -/
mutual
def uptoBulk {H : Type} : DataW H → Nat
  | .lit (.string bytes) => bytes.length + 1
  | .lit _ => 1
  | .nil => 1
  | .ptr d => uptoBulk d + 1
  | .slice elems spare => uptoBulkAll elems + uptoBulkAll spare + 1
  | .agg parts => uptoBulkAll parts + 1
  | .iface _ d => uptoBulk d + 1
  | .map entries => uptoBulkEntries entries + 1
  | .held _ => 1
def uptoBulkAll {H : Type} : List (DataW H) → Nat
  | [] => 0
  | d :: r => uptoBulk d + uptoBulkAll r
def uptoBulkEntries {H : Type} : List (Lit × DataW H) → Nat
  | [] => 0
  | x :: r => uptoBulkEntry x + uptoBulkEntries r
def uptoBulkEntry {H : Type} : Lit × DataW H → Nat
  | (.string bytes, d) => bytes.length + uptoBulk d + 1
  | (_, d) => uptoBulk d + 1
 end
def uptoSmall : (H : Type) → List (DataW H) → Bool := fun _ ds => decide (uptoBulkAll ds ≤ 1048576)
def OpenSpec.upto (s : _root_.Go.ChangeSpec) : _root_.Go.OpenSpec := { _root_.Go.OpenSpec.ofChange s with cond := some uptoSmall }

/-- 'daisychainlaw18.ClientOwn', WHERE WHAT IT READS IS OF BULK AT MOST 1048576: true; the input reads as it did. -/
def clientOwnUptoRow : OpenClaim := { program := "ytdoikghgblohjaa", sum := "d0c80da81e3c05d49f874778189ec71c24509ee568096c9baad6baa55096074c", func := "daisychain/daisychainlaw18.ClientOwn", spec := "clientOwn", apart := false, narrowed := true }
def ClientOwnUptoSaid : Prop := clientOwnUptoRow.holds Try.pinned (OpenSpec.upto clientOwnSpec)

/-- 'daisychainlaw18.ClientCounts', WHERE WHAT IT READS IS OF BULK AT MOST 1048576: true; the input reads as it did. -/
def clientCountsUptoRow : OpenClaim := { program := "ytdoikghgblohjaa", sum := "d0c80da81e3c05d49f874778189ec71c24509ee568096c9baad6baa55096074c", func := "daisychain/daisychainlaw18.ClientCounts", spec := "clientCounts", apart := false, narrowed := true }
def ClientCountsUptoSaid : Prop := clientCountsUptoRow.holds Try.pinned (OpenSpec.upto clientCountsSpec)

/-- 'daisychainlaw18.ClientOpens', WHERE WHAT IT READS IS OF BULK AT MOST 1048576: true; the input reads as it did. -/
def clientOpensUptoRow : OpenClaim := { program := "ytdoikghgblohjaa", sum := "d0c80da81e3c05d49f874778189ec71c24509ee568096c9baad6baa55096074c", func := "daisychain/daisychainlaw18.ClientOpens", spec := "clientOpens", apart := false, narrowed := true }
def ClientOpensUptoSaid : Prop := clientOpensUptoRow.holds Try.pinned (OpenSpec.upto clientOpensSpec)

/-- 'daisychainlaw18.ClientCalls', WHERE WHAT IT READS IS OF BULK AT MOST 1048576: true; the input reads as it did. -/
def clientCallsUptoRow : OpenClaim := { program := "ytdoikghgblohjaa", sum := "d0c80da81e3c05d49f874778189ec71c24509ee568096c9baad6baa55096074c", func := "daisychain/daisychainlaw18.ClientCalls", spec := "clientCalls", apart := false, narrowed := true }
def ClientCallsUptoSaid : Prop := clientCallsUptoRow.holds Try.pinned (OpenSpec.upto clientCallsSpec)

/-- 'daisychainlaw01.CoilApart', WHERE WHAT IT READS IS OF BULK AT MOST 1048576: true; the input reads as it did. -/
def coilApartUptoRow : OpenClaim := { program := "ytdoikghgblohjaa", sum := "d0c80da81e3c05d49f874778189ec71c24509ee568096c9baad6baa55096074c", func := "daisychain/daisychainlaw01.CoilApart", spec := "coilApart", apart := false, narrowed := true }
def CoilApartUptoSaid : Prop := coilApartUptoRow.holds Try.pinned (OpenSpec.upto coilApartSpec)

/-- 'daisychainlaw01.CoilWrites', WHERE WHAT IT READS IS OF BULK AT MOST 1048576: true; the input reads as it did. -/
def coilWritesUptoRow : OpenClaim := { program := "ytdoikghgblohjaa", sum := "d0c80da81e3c05d49f874778189ec71c24509ee568096c9baad6baa55096074c", func := "daisychain/daisychainlaw01.CoilWrites", spec := "coilWrites", recurses := true, apart := false, narrowed := true }
def CoilWritesUptoSaid : Prop := coilWritesUptoRow.holds Try.pinned (OpenSpec.upto coilWritesSpec)

/-- 'daisychainlaw01.CoilRows', WHERE WHAT IT READS IS OF BULK AT MOST 1048576: true; the input reads as it did. -/
def coilRowsUptoRow : OpenClaim := { program := "ytdoikghgblohjaa", sum := "d0c80da81e3c05d49f874778189ec71c24509ee568096c9baad6baa55096074c", func := "daisychain/daisychainlaw01.CoilRows", spec := "coilRows", apart := false, narrowed := true }
def CoilRowsUptoSaid : Prop := coilRowsUptoRow.holds Try.pinned (OpenSpec.upto coilRowsSpec)

/-- 'daisychainlaw11.EntryNewer', WHERE WHAT IT READS IS OF BULK AT MOST 1048576: true; the input reads as it did. -/
def entryNewerUptoRow : OpenClaim := { program := "ytdoikghgblohjaa", sum := "d0c80da81e3c05d49f874778189ec71c24509ee568096c9baad6baa55096074c", func := "daisychain/daisychainlaw11.EntryNewer", spec := "entryNewer", recurses := true, apart := false, narrowed := true }
def EntryNewerUptoSaid : Prop := entryNewerUptoRow.holds Try.pinned (OpenSpec.upto entryNewerSpec)

/-- 'daisychainlaw01.CoilBack', WHERE WHAT IT READS IS OF BULK AT MOST 1048576: true; the input reads as it did. -/
def coilBackUptoRow : OpenClaim := { program := "ytdoikghgblohjaa", sum := "d0c80da81e3c05d49f874778189ec71c24509ee568096c9baad6baa55096074c", func := "daisychain/daisychainlaw01.CoilBack", spec := "coilBack", apart := false, narrowed := true }
def CoilBackUptoSaid : Prop := coilBackUptoRow.holds Try.pinned (OpenSpec.upto coilBackSpec)

/-- 'daisychainlaw11.EntryAdds', WHERE WHAT IT READS IS OF BULK AT MOST 1048576: true; the input reads as it did. -/
def entryAddsUptoRow : OpenClaim := { program := "ytdoikghgblohjaa", sum := "d0c80da81e3c05d49f874778189ec71c24509ee568096c9baad6baa55096074c", func := "daisychain/daisychainlaw11.EntryAdds", spec := "entryAdds", recurses := true, apart := false, narrowed := true }
def EntryAddsUptoSaid : Prop := entryAddsUptoRow.holds Try.pinned (OpenSpec.upto entryAddsSpec)

/-- 'daisychainlaw11.EntryMatches', WHERE WHAT IT READS IS OF BULK AT MOST 1048576: true; the input reads as it did. -/
def entryMatchesUptoRow : OpenClaim := { program := "ytdoikghgblohjaa", sum := "d0c80da81e3c05d49f874778189ec71c24509ee568096c9baad6baa55096074c", func := "daisychain/daisychainlaw11.EntryMatches", spec := "entryMatches", recurses := true, apart := false, narrowed := true }
def EntryMatchesUptoSaid : Prop := entryMatchesUptoRow.holds Try.pinned (OpenSpec.upto entryMatchesSpec)

/-- 'daisychainlaw11.EntryCopies', WHERE WHAT IT READS IS OF BULK AT MOST 1048576: true; the input reads as it did. -/
def entryCopiesUptoRow : OpenClaim := { program := "ytdoikghgblohjaa", sum := "d0c80da81e3c05d49f874778189ec71c24509ee568096c9baad6baa55096074c", func := "daisychain/daisychainlaw11.EntryCopies", spec := "entryCopies", recurses := true, apart := false, narrowed := true }
def EntryCopiesUptoSaid : Prop := entryCopiesUptoRow.holds Try.pinned (OpenSpec.upto entryCopiesSpec)

end Rows
end Go.Proofs.Ytdoikghgblohjaa
