/-
  No cell of these rows narrows 'for every input' (looked for: loops, veiled, ifaces, maps, wideKeys, modest, calm, conditions, laid).
  DERIVED. THE GIVEN ROWS OF THIS SEAT. 5 by the template 'for every input the law returns true; each argument reads behind the call as it read before'; 0 by the template 'total and deterministic' (their statements: YtbbeidhijbemlaaTotals.lean).
  GIVEN WITH THE SEED: the statements are not yours to turn. If you find one false, say at which input.
  Laid BY PROGRAM, IN A SANDBOX (cutbox-rows.mjs): the forced cells as the released guide's own fill.sh prints them over the translation e9234ff3274d9124… (all of the seat's roots in one cut). By AI agents, Wed Nov 11 2026. No macro, syntax, notation, axiom, sorry.
-/
import Derived.Test.YtbbeidhijbemlaaChecked
import GoSem.Claim
import GoSem.ClaimJoined
import GoSem.ClaimMapViews
import Derived.JoinedTies
import Derived.KernelRfl
namespace Go.Proofs.Ytbbeidhijbemlaa
/- THE CELL 'sum', in the pinned program and in every row, IS THE sha256 OF THE DUMP (.gsa) THAT YtbbeidhijbemlaaProg.lean LOADS. Nothing in Lean hashes anything: it is a label: what it is worth is what the hold of that sum in a sandbox is worth. -/
noncomputable def Try.pinned : Pinned := { name := "ytbbeidhijbemlaa", sum := "e9234ff3274d9124da1df53aaf9c2c772ef8a9f1404a0f4fc0611160fe62114f", checked := Try.checked }
namespace Rows
def none {H : Type} : Left H := { results := [], args := [] }

/-- 'sibyllaw15.WindPlans': WHATEVER THE INPUT: true; the input reads as it did. -/
def windPlansSpec : ChangeSpec := { name := "windPlans", fn := fun _ => fun
  | [d1, d2] => { results := [.lit (.bool true)], args := [d1, d2] }
  | _ => none }
def windPlansRow : OpenClaim := { program := "ytbbeidhijbemlaa", sum := "e9234ff3274d9124da1df53aaf9c2c772ef8a9f1404a0f4fc0611160fe62114f", func := "sibyl/sibyllaw15.WindPlans", spec := "windPlans", unfollowed := true, recurses := true, apart := false }
def WindPlansSaid : Prop := windPlansRow.holds Try.pinned (OpenSpec.ofChange windPlansSpec)

/-- ITS FALSE NEIGHBOUR: 'it returns false'. Refute it at one input. -/
def windPlansWrong : ChangeSpec := { name := "windPlans", fn := fun _ => fun
  | [d1, d2] => { results := [.lit (.bool false)], args := [d1, d2] }
  | _ => none }
def WindPlansWrongFalsely : Prop := windPlansRow.holds Try.pinned (OpenSpec.ofChange windPlansWrong)

/-- 'sibyllaw15.WindRides': WHATEVER THE INPUT: true; the input reads as it did. -/
def windRidesSpec : ChangeSpec := { name := "windRides", fn := fun _ => fun
  | [d1, d2] => { results := [.lit (.bool true)], args := [d1, d2] }
  | _ => none }
def windRidesRow : OpenClaim := { program := "ytbbeidhijbemlaa", sum := "e9234ff3274d9124da1df53aaf9c2c772ef8a9f1404a0f4fc0611160fe62114f", func := "sibyl/sibyllaw15.WindRides", spec := "windRides", unfollowed := true, recurses := true, apart := false }
def WindRidesSaid : Prop := windRidesRow.holds Try.pinned (OpenSpec.ofChange windRidesSpec)

/-- ITS FALSE NEIGHBOUR: 'it returns false'. Refute it at one input. -/
def windRidesWrong : ChangeSpec := { name := "windRides", fn := fun _ => fun
  | [d1, d2] => { results := [.lit (.bool false)], args := [d1, d2] }
  | _ => none }
def WindRidesWrongFalsely : Prop := windRidesRow.holds Try.pinned (OpenSpec.ofChange windRidesWrong)

/-- 'sibyllaw15.WindHandlers': WHATEVER THE INPUT: true; the input reads as it did. -/
def windHandlersSpec : ChangeSpec := { name := "windHandlers", fn := fun _ => fun
  | [d] => { results := [.lit (.bool true)], args := [d] }
  | _ => none }
def windHandlersRow : OpenClaim := { program := "ytbbeidhijbemlaa", sum := "e9234ff3274d9124da1df53aaf9c2c772ef8a9f1404a0f4fc0611160fe62114f", func := "sibyl/sibyllaw15.WindHandlers", spec := "windHandlers", unfollowed := true, recurses := true, apart := false }
def WindHandlersSaid : Prop := windHandlersRow.holds Try.pinned (OpenSpec.ofChange windHandlersSpec)

/-- ITS FALSE NEIGHBOUR: 'it returns false'. Refute it at one input. -/
def windHandlersWrong : ChangeSpec := { name := "windHandlers", fn := fun _ => fun
  | [d] => { results := [.lit (.bool false)], args := [d] }
  | _ => none }
def WindHandlersWrongFalsely : Prop := windHandlersRow.holds Try.pinned (OpenSpec.ofChange windHandlersWrong)

/-- 'sibyllaw15.WindArrives': WHATEVER THE INPUT: true; the input reads as it did. -/
def windArrivesSpec : ChangeSpec := { name := "windArrives", fn := fun _ => fun
  | [d1, d2] => { results := [.lit (.bool true)], args := [d1, d2] }
  | _ => none }
def windArrivesRow : OpenClaim := { program := "ytbbeidhijbemlaa", sum := "e9234ff3274d9124da1df53aaf9c2c772ef8a9f1404a0f4fc0611160fe62114f", func := "sibyl/sibyllaw15.WindArrives", spec := "windArrives", unfollowed := true, recurses := true, apart := false }
def WindArrivesSaid : Prop := windArrivesRow.holds Try.pinned (OpenSpec.ofChange windArrivesSpec)

/-- ITS FALSE NEIGHBOUR: 'it returns false'. Refute it at one input. -/
def windArrivesWrong : ChangeSpec := { name := "windArrives", fn := fun _ => fun
  | [d1, d2] => { results := [.lit (.bool false)], args := [d1, d2] }
  | _ => none }
def WindArrivesWrongFalsely : Prop := windArrivesRow.holds Try.pinned (OpenSpec.ofChange windArrivesWrong)

/-- 'sibyllaw15.WindOwn': WHATEVER THE INPUT: true; the input reads as it did. -/
def windOwnSpec : ChangeSpec := { name := "windOwn", fn := fun _ => fun
  | [d1, d2] => { results := [.lit (.bool true)], args := [d1, d2] }
  | _ => none }
def windOwnRow : OpenClaim := { program := "ytbbeidhijbemlaa", sum := "e9234ff3274d9124da1df53aaf9c2c772ef8a9f1404a0f4fc0611160fe62114f", func := "sibyl/sibyllaw15.WindOwn", spec := "windOwn", unfollowed := true, recurses := true, apart := false }
def WindOwnSaid : Prop := windOwnRow.holds Try.pinned (OpenSpec.ofChange windOwnSpec)

/-- ITS FALSE NEIGHBOUR: 'it returns false'. Refute it at one input. -/
def windOwnWrong : ChangeSpec := { name := "windOwn", fn := fun _ => fun
  | [d1, d2] => { results := [.lit (.bool false)], args := [d1, d2] }
  | _ => none }
def WindOwnWrongFalsely : Prop := windOwnRow.holds Try.pinned (OpenSpec.ofChange windOwnWrong)

/- THE SECOND FORM. 'bulk': how many values and letters a reading holds, each counted each time it is reached (what is shared counts as often as it is met; a slice's spare places count too). A statement '..UptoSaid' is the law's where the arguments, and the package variables that the reading takes, are together of bulk at most 1048576: NARROWER than '..Said'. Prove '..Said' where nothing that the law and all that it calls make is longer than what came in: it says more and counts as full. Else prove '..UptoSaid'. A law counts once. -/
mutual
def uptoBulk {H : Type} : DataW H → Nat
  | .lit (.string bytes) => bytes.length + 1
  | .lit _ => 1
  | .nil => 1
  | .ptr d => uptoBulk d + 1
  | .slice elems spare => uptoBulkAll elems + uptoBulkAll spare + 1
  | .agg parts => uptoBulkAll parts + 1
  | .iface _ d => uptoBulk d + 1
  | .map entries => uptoBulkEntries entries + 1
  | .held _ => 1
def uptoBulkAll {H : Type} : List (DataW H) → Nat
  | [] => 0
  | d :: r => uptoBulk d + uptoBulkAll r
def uptoBulkEntries {H : Type} : List (Lit × DataW H) → Nat
  | [] => 0
  | x :: r => uptoBulkEntry x + uptoBulkEntries r
def uptoBulkEntry {H : Type} : Lit × DataW H → Nat
  | (.string bytes, d) => bytes.length + uptoBulk d + 1
  | (_, d) => uptoBulk d + 1
 end
def uptoSmall : (H : Type) → List (DataW H) → Bool := fun _ ds => decide (uptoBulkAll ds ≤ 1048576)
def OpenSpec.upto (s : _root_.Go.ChangeSpec) : _root_.Go.OpenSpec := { _root_.Go.OpenSpec.ofChange s with cond := some uptoSmall }

/-- 'sibyllaw15.WindPlans', WHERE WHAT IT READS IS OF BULK AT MOST 1048576: true; the input reads as it did. -/
def windPlansUptoRow : OpenClaim := { program := "ytbbeidhijbemlaa", sum := "e9234ff3274d9124da1df53aaf9c2c772ef8a9f1404a0f4fc0611160fe62114f", func := "sibyl/sibyllaw15.WindPlans", spec := "windPlans", unfollowed := true, recurses := true, apart := false, narrowed := true }
def WindPlansUptoSaid : Prop := windPlansUptoRow.holds Try.pinned (OpenSpec.upto windPlansSpec)

/-- 'sibyllaw15.WindRides', WHERE WHAT IT READS IS OF BULK AT MOST 1048576: true; the input reads as it did. -/
def windRidesUptoRow : OpenClaim := { program := "ytbbeidhijbemlaa", sum := "e9234ff3274d9124da1df53aaf9c2c772ef8a9f1404a0f4fc0611160fe62114f", func := "sibyl/sibyllaw15.WindRides", spec := "windRides", unfollowed := true, recurses := true, apart := false, narrowed := true }
def WindRidesUptoSaid : Prop := windRidesUptoRow.holds Try.pinned (OpenSpec.upto windRidesSpec)

/-- 'sibyllaw15.WindHandlers', WHERE WHAT IT READS IS OF BULK AT MOST 1048576: true; the input reads as it did. -/
def windHandlersUptoRow : OpenClaim := { program := "ytbbeidhijbemlaa", sum := "e9234ff3274d9124da1df53aaf9c2c772ef8a9f1404a0f4fc0611160fe62114f", func := "sibyl/sibyllaw15.WindHandlers", spec := "windHandlers", unfollowed := true, recurses := true, apart := false, narrowed := true }
def WindHandlersUptoSaid : Prop := windHandlersUptoRow.holds Try.pinned (OpenSpec.upto windHandlersSpec)

/-- 'sibyllaw15.WindArrives', WHERE WHAT IT READS IS OF BULK AT MOST 1048576: true; the input reads as it did. -/
def windArrivesUptoRow : OpenClaim := { program := "ytbbeidhijbemlaa", sum := "e9234ff3274d9124da1df53aaf9c2c772ef8a9f1404a0f4fc0611160fe62114f", func := "sibyl/sibyllaw15.WindArrives", spec := "windArrives", unfollowed := true, recurses := true, apart := false, narrowed := true }
def WindArrivesUptoSaid : Prop := windArrivesUptoRow.holds Try.pinned (OpenSpec.upto windArrivesSpec)

/-- 'sibyllaw15.WindOwn', WHERE WHAT IT READS IS OF BULK AT MOST 1048576: true; the input reads as it did. -/
def windOwnUptoRow : OpenClaim := { program := "ytbbeidhijbemlaa", sum := "e9234ff3274d9124da1df53aaf9c2c772ef8a9f1404a0f4fc0611160fe62114f", func := "sibyl/sibyllaw15.WindOwn", spec := "windOwn", unfollowed := true, recurses := true, apart := false, narrowed := true }
def WindOwnUptoSaid : Prop := windOwnUptoRow.holds Try.pinned (OpenSpec.upto windOwnSpec)

end Rows
end Go.Proofs.Ytbbeidhijbemlaa
