/-
  NARROWER THAN 'FOR EVERY INPUT', by the rows' own cells (each row's printed sentence says how): DatumWrites: loops · DatumCounts: loops · DatumBack: loops.
  DERIVED. THE GIVEN ROWS OF THIS SEAT. 6 by the template 'for every input the law returns true; each argument reads behind the call as it read before'; 0 by the template 'total and deterministic' (their statements: YtcjhbkcdhpbkcaaTotals.lean).
  GIVEN WITH THE SEED: the statements are not yours to turn. If you find one false, say at which input.
  Laid BY PROGRAM, IN A SANDBOX (cutbox-rows.mjs): the forced cells as the released guide's own fill.sh prints them over the translation 13b99aa02d61c034… (all of the seat's roots in one cut). By AI agents, Wed Nov 11 2026. No macro, syntax, notation, axiom, sorry.
-/
import Derived.Test.YtcjhbkcdhpbkcaaChecked
import GoSem.Claim
import GoSem.ClaimJoined
import GoSem.ClaimMapViews
import Derived.JoinedTies
import Derived.KernelRfl
namespace Go.Proofs.Ytcjhbkcdhpbkcaa
/- THE CELL 'sum', in the pinned program and in every row, IS THE sha256 OF THE DUMP (.gsa) THAT YtcjhbkcdhpbkcaaProg.lean LOADS. Nothing in Lean hashes anything: it is a label: what it is worth is what the hold of that sum in a sandbox is worth. -/
noncomputable def Try.pinned : Pinned := { name := "ytcjhbkcdhpbkcaa", sum := "13b99aa02d61c034fb7bbb2387d4aeb9bec66f3d83635ed5262546506cff66b5", checked := Try.checked }
namespace Rows
def none {H : Type} : Left H := { results := [], args := [] }

/-- 'sibyllaw05.DatumReads': WHATEVER THE INPUT: true; the input reads as it did. -/
def datumReadsSpec : ChangeSpec := { name := "datumReads", fn := fun _ => fun
  | [d] => { results := [.lit (.bool true)], args := [d] }
  | _ => none }
def datumReadsRow : OpenClaim := { program := "ytcjhbkcdhpbkcaa", sum := "13b99aa02d61c034fb7bbb2387d4aeb9bec66f3d83635ed5262546506cff66b5", func := "sibyl/sibyllaw05.DatumReads", spec := "datumReads", inPlace := ["internal/bytealg.IndexByteString", "internal/bytealg.IndexString", "internal/abi.NoEscape"], unfollowed := true, recurses := true, named := ["internal/bytealg.MaxLen"], apart := false }
def DatumReadsSaid : Prop := datumReadsRow.holds Try.pinned (OpenSpec.ofChange datumReadsSpec)

/-- ITS FALSE NEIGHBOUR: 'it returns false'. Refute it at one input. -/
def datumReadsWrong : ChangeSpec := { name := "datumReads", fn := fun _ => fun
  | [d] => { results := [.lit (.bool false)], args := [d] }
  | _ => none }
def DatumReadsWrongFalsely : Prop := datumReadsRow.holds Try.pinned (OpenSpec.ofChange datumReadsWrong)

/-- 'sibyllaw05.DatumWrites': WHATEVER THE INPUT: true; the input reads as it did. -/
def datumWritesSpec : ChangeSpec := { name := "datumWrites", fn := fun _ => fun
  | [d] => { results := [.lit (.bool true)], args := [d] }
  | _ => none }
def datumWritesRow : OpenClaim := { program := "ytcjhbkcdhpbkcaa", sum := "13b99aa02d61c034fb7bbb2387d4aeb9bec66f3d83635ed5262546506cff66b5", func := "sibyl/sibyllaw05.DatumWrites", spec := "datumWrites", inPlace := ["internal/bytealg.IndexByteString", "internal/bytealg.IndexString", "internal/abi.NoEscape"], unfollowed := true, recurses := true, named := ["internal/bytealg.MaxLen"], loops := true, apart := false }
def DatumWritesSaid : Prop := datumWritesRow.holds Try.pinned (OpenSpec.ofChange datumWritesSpec)

/-- ITS FALSE NEIGHBOUR: 'it returns false'. Refute it at one input. -/
def datumWritesWrong : ChangeSpec := { name := "datumWrites", fn := fun _ => fun
  | [d] => { results := [.lit (.bool false)], args := [d] }
  | _ => none }
def DatumWritesWrongFalsely : Prop := datumWritesRow.holds Try.pinned (OpenSpec.ofChange datumWritesWrong)

/-- 'sibyllaw05.DatumCounts': WHATEVER THE INPUT: true; the input reads as it did. -/
def datumCountsSpec : ChangeSpec := { name := "datumCounts", fn := fun _ => fun
  | [d1, d2] => { results := [.lit (.bool true)], args := [d1, d2] }
  | _ => none }
def datumCountsRow : OpenClaim := { program := "ytcjhbkcdhpbkcaa", sum := "13b99aa02d61c034fb7bbb2387d4aeb9bec66f3d83635ed5262546506cff66b5", func := "sibyl/sibyllaw05.DatumCounts", spec := "datumCounts", inPlace := ["internal/bytealg.IndexByteString", "internal/bytealg.IndexString", "internal/abi.NoEscape"], unfollowed := true, recurses := true, named := ["internal/bytealg.MaxLen"], loops := true, apart := false }
def DatumCountsSaid : Prop := datumCountsRow.holds Try.pinned (OpenSpec.ofChange datumCountsSpec)

/-- ITS FALSE NEIGHBOUR: 'it returns false'. Refute it at one input. -/
def datumCountsWrong : ChangeSpec := { name := "datumCounts", fn := fun _ => fun
  | [d1, d2] => { results := [.lit (.bool false)], args := [d1, d2] }
  | _ => none }
def DatumCountsWrongFalsely : Prop := datumCountsRow.holds Try.pinned (OpenSpec.ofChange datumCountsWrong)

/-- 'sibyllaw05.DatumBack': WHATEVER THE INPUT: true; the input reads as it did. -/
def datumBackSpec : ChangeSpec := { name := "datumBack", fn := fun _ => fun
  | [d1, d2] => { results := [.lit (.bool true)], args := [d1, d2] }
  | _ => none }
def datumBackRow : OpenClaim := { program := "ytcjhbkcdhpbkcaa", sum := "13b99aa02d61c034fb7bbb2387d4aeb9bec66f3d83635ed5262546506cff66b5", func := "sibyl/sibyllaw05.DatumBack", spec := "datumBack", inPlace := ["internal/bytealg.IndexByteString", "internal/bytealg.IndexString", "internal/abi.NoEscape"], unfollowed := true, recurses := true, named := ["internal/bytealg.MaxLen"], loops := true, apart := false }
def DatumBackSaid : Prop := datumBackRow.holds Try.pinned (OpenSpec.ofChange datumBackSpec)

/-- ITS FALSE NEIGHBOUR: 'it returns false'. Refute it at one input. -/
def datumBackWrong : ChangeSpec := { name := "datumBack", fn := fun _ => fun
  | [d1, d2] => { results := [.lit (.bool false)], args := [d1, d2] }
  | _ => none }
def DatumBackWrongFalsely : Prop := datumBackRow.holds Try.pinned (OpenSpec.ofChange datumBackWrong)

/-- 'sibyllaw05.DatumQuotes': WHATEVER THE INPUT: true; the input reads as it did. -/
def datumQuotesSpec : ChangeSpec := { name := "datumQuotes", fn := fun _ => fun
  | [d] => { results := [.lit (.bool true)], args := [d] }
  | _ => none }
def datumQuotesRow : OpenClaim := { program := "ytcjhbkcdhpbkcaa", sum := "13b99aa02d61c034fb7bbb2387d4aeb9bec66f3d83635ed5262546506cff66b5", func := "sibyl/sibyllaw05.DatumQuotes", spec := "datumQuotes", inPlace := ["internal/bytealg.IndexByteString", "internal/bytealg.IndexString", "internal/abi.NoEscape"], unfollowed := true, recurses := true, named := ["internal/bytealg.MaxLen"], apart := false }
def DatumQuotesSaid : Prop := datumQuotesRow.holds Try.pinned (OpenSpec.ofChange datumQuotesSpec)

/-- ITS FALSE NEIGHBOUR: 'it returns false'. Refute it at one input. -/
def datumQuotesWrong : ChangeSpec := { name := "datumQuotes", fn := fun _ => fun
  | [d] => { results := [.lit (.bool false)], args := [d] }
  | _ => none }
def DatumQuotesWrongFalsely : Prop := datumQuotesRow.holds Try.pinned (OpenSpec.ofChange datumQuotesWrong)

/-- 'sibyllaw05.DatumNests': WHATEVER THE INPUT: true; the input reads as it did. -/
def datumNestsSpec : ChangeSpec := { name := "datumNests", fn := fun _ => fun
  | [d] => { results := [.lit (.bool true)], args := [d] }
  | _ => none }
def datumNestsRow : OpenClaim := { program := "ytcjhbkcdhpbkcaa", sum := "13b99aa02d61c034fb7bbb2387d4aeb9bec66f3d83635ed5262546506cff66b5", func := "sibyl/sibyllaw05.DatumNests", spec := "datumNests", inPlace := ["internal/bytealg.IndexByteString", "internal/bytealg.IndexString", "internal/abi.NoEscape"], unfollowed := true, recurses := true, named := ["internal/bytealg.MaxLen"], apart := false }
def DatumNestsSaid : Prop := datumNestsRow.holds Try.pinned (OpenSpec.ofChange datumNestsSpec)

/-- ITS FALSE NEIGHBOUR: 'it returns false'. Refute it at one input. -/
def datumNestsWrong : ChangeSpec := { name := "datumNests", fn := fun _ => fun
  | [d] => { results := [.lit (.bool false)], args := [d] }
  | _ => none }
def DatumNestsWrongFalsely : Prop := datumNestsRow.holds Try.pinned (OpenSpec.ofChange datumNestsWrong)

/- THE SECOND FORM. 'bulk': how many values and letters a reading holds, each counted each time it is reached (what is shared counts as often as it is met; a slice's spare places count too). A statement '..UptoSaid' is the law's where the arguments, and the package variables that the reading takes, are together of bulk at most 1048576: NARROWER than '..Said'. Prove '..Said' where nothing that the law and all that it calls make is longer than what came in: it says more and counts as full. Else prove '..UptoSaid'. A law counts once. -/
mutual
def uptoBulk {H : Type} : DataW H → Nat
  | .lit (.string bytes) => bytes.length + 1
  | .lit _ => 1
  | .nil => 1
  | .ptr d => uptoBulk d + 1
  | .slice elems spare => uptoBulkAll elems + uptoBulkAll spare + 1
  | .agg parts => uptoBulkAll parts + 1
  | .iface _ d => uptoBulk d + 1
  | .map entries => uptoBulkEntries entries + 1
  | .held _ => 1
def uptoBulkAll {H : Type} : List (DataW H) → Nat
  | [] => 0
  | d :: r => uptoBulk d + uptoBulkAll r
def uptoBulkEntries {H : Type} : List (Lit × DataW H) → Nat
  | [] => 0
  | x :: r => uptoBulkEntry x + uptoBulkEntries r
def uptoBulkEntry {H : Type} : Lit × DataW H → Nat
  | (.string bytes, d) => bytes.length + uptoBulk d + 1
  | (_, d) => uptoBulk d + 1
 end
def uptoSmall : (H : Type) → List (DataW H) → Bool := fun _ ds => decide (uptoBulkAll ds ≤ 1048576)
def OpenSpec.upto (s : _root_.Go.ChangeSpec) : _root_.Go.OpenSpec := { _root_.Go.OpenSpec.ofChange s with cond := some uptoSmall }

/-- 'sibyllaw05.DatumReads', WHERE WHAT IT READS IS OF BULK AT MOST 1048576: true; the input reads as it did. -/
def datumReadsUptoRow : OpenClaim := { program := "ytcjhbkcdhpbkcaa", sum := "13b99aa02d61c034fb7bbb2387d4aeb9bec66f3d83635ed5262546506cff66b5", func := "sibyl/sibyllaw05.DatumReads", spec := "datumReads", inPlace := ["internal/bytealg.IndexByteString", "internal/bytealg.IndexString", "internal/abi.NoEscape"], unfollowed := true, recurses := true, named := ["internal/bytealg.MaxLen"], apart := false, narrowed := true }
def DatumReadsUptoSaid : Prop := datumReadsUptoRow.holds Try.pinned (OpenSpec.upto datumReadsSpec)

/-- 'sibyllaw05.DatumWrites', WHERE WHAT IT READS IS OF BULK AT MOST 1048576: true; the input reads as it did. -/
def datumWritesUptoRow : OpenClaim := { program := "ytcjhbkcdhpbkcaa", sum := "13b99aa02d61c034fb7bbb2387d4aeb9bec66f3d83635ed5262546506cff66b5", func := "sibyl/sibyllaw05.DatumWrites", spec := "datumWrites", inPlace := ["internal/bytealg.IndexByteString", "internal/bytealg.IndexString", "internal/abi.NoEscape"], unfollowed := true, recurses := true, named := ["internal/bytealg.MaxLen"], loops := true, apart := false, narrowed := true }
def DatumWritesUptoSaid : Prop := datumWritesUptoRow.holds Try.pinned (OpenSpec.upto datumWritesSpec)

/-- 'sibyllaw05.DatumCounts', WHERE WHAT IT READS IS OF BULK AT MOST 1048576: true; the input reads as it did. -/
def datumCountsUptoRow : OpenClaim := { program := "ytcjhbkcdhpbkcaa", sum := "13b99aa02d61c034fb7bbb2387d4aeb9bec66f3d83635ed5262546506cff66b5", func := "sibyl/sibyllaw05.DatumCounts", spec := "datumCounts", inPlace := ["internal/bytealg.IndexByteString", "internal/bytealg.IndexString", "internal/abi.NoEscape"], unfollowed := true, recurses := true, named := ["internal/bytealg.MaxLen"], loops := true, apart := false, narrowed := true }
def DatumCountsUptoSaid : Prop := datumCountsUptoRow.holds Try.pinned (OpenSpec.upto datumCountsSpec)

/-- 'sibyllaw05.DatumBack', WHERE WHAT IT READS IS OF BULK AT MOST 1048576: true; the input reads as it did. -/
def datumBackUptoRow : OpenClaim := { program := "ytcjhbkcdhpbkcaa", sum := "13b99aa02d61c034fb7bbb2387d4aeb9bec66f3d83635ed5262546506cff66b5", func := "sibyl/sibyllaw05.DatumBack", spec := "datumBack", inPlace := ["internal/bytealg.IndexByteString", "internal/bytealg.IndexString", "internal/abi.NoEscape"], unfollowed := true, recurses := true, named := ["internal/bytealg.MaxLen"], loops := true, apart := false, narrowed := true }
def DatumBackUptoSaid : Prop := datumBackUptoRow.holds Try.pinned (OpenSpec.upto datumBackSpec)

/-- 'sibyllaw05.DatumQuotes', WHERE WHAT IT READS IS OF BULK AT MOST 1048576: true; the input reads as it did. -/
def datumQuotesUptoRow : OpenClaim := { program := "ytcjhbkcdhpbkcaa", sum := "13b99aa02d61c034fb7bbb2387d4aeb9bec66f3d83635ed5262546506cff66b5", func := "sibyl/sibyllaw05.DatumQuotes", spec := "datumQuotes", inPlace := ["internal/bytealg.IndexByteString", "internal/bytealg.IndexString", "internal/abi.NoEscape"], unfollowed := true, recurses := true, named := ["internal/bytealg.MaxLen"], apart := false, narrowed := true }
def DatumQuotesUptoSaid : Prop := datumQuotesUptoRow.holds Try.pinned (OpenSpec.upto datumQuotesSpec)

/-- 'sibyllaw05.DatumNests', WHERE WHAT IT READS IS OF BULK AT MOST 1048576: true; the input reads as it did. -/
def datumNestsUptoRow : OpenClaim := { program := "ytcjhbkcdhpbkcaa", sum := "13b99aa02d61c034fb7bbb2387d4aeb9bec66f3d83635ed5262546506cff66b5", func := "sibyl/sibyllaw05.DatumNests", spec := "datumNests", inPlace := ["internal/bytealg.IndexByteString", "internal/bytealg.IndexString", "internal/abi.NoEscape"], unfollowed := true, recurses := true, named := ["internal/bytealg.MaxLen"], apart := false, narrowed := true }
def DatumNestsUptoSaid : Prop := datumNestsUptoRow.holds Try.pinned (OpenSpec.upto datumNestsSpec)

end Rows
end Go.Proofs.Ytcjhbkcdhpbkcaa
