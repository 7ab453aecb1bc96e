/-
  No cell of these rows narrows 'for every input' (looked for: loops, veiled, ifaces, maps, wideKeys, modest, calm, conditions, laid).
  DERIVED. THE GIVEN ROWS OF THIS SEAT. 5 by the template 'for every input the law returns true; each argument reads behind the call as it read before'; 0 by the template 'total and deterministic' (their statements: YtnchceblpogpmaaTotals.lean).
  GIVEN WITH THE SEED: the statements are not yours to turn. If you find one false, say at which input.
  Laid BY PROGRAM, IN A SANDBOX (cutbox-rows.mjs): the forced cells as the released guide's own fill.sh prints them over the translation f268c0e6a713966f… (all of the seat's roots in one cut). By AI agents, Wed Nov 11 2026. No macro, syntax, notation, axiom, sorry.
-/
import Derived.Test.YtnchceblpogpmaaChecked
import GoSem.Claim
import GoSem.ClaimJoined
import GoSem.ClaimMapViews
import Derived.JoinedTies
import Derived.KernelRfl
namespace Go.Proofs.Ytnchceblpogpmaa
/- THE CELL 'sum', in the pinned program and in every row, IS THE sha256 OF THE DUMP (.gsa) THAT YtnchceblpogpmaaProg.lean LOADS. Nothing in Lean hashes anything: it is a label: what it is worth is what the hold of that sum in a sandbox is worth. -/
noncomputable def Try.pinned : Pinned := { name := "ytnchceblpogpmaa", sum := "f268c0e6a713966fb5486180cb2485d3a5f067eb381cc37dfd10145a0d134c38", checked := Try.checked }
namespace Rows
def none {H : Type} : Left H := { results := [], args := [] }

/-- 'althinglaw13.RepairDecides': WHATEVER THE INPUT: true; the input reads as it did. -/
def repairDecidesSpec : ChangeSpec := { name := "repairDecides", fn := fun _ => fun
  | [d1, d2, d3] => { results := [.lit (.bool true)], args := [d1, d2, d3] }
  | _ => none }
def repairDecidesRow : OpenClaim := { program := "ytnchceblpogpmaa", sum := "f268c0e6a713966fb5486180cb2485d3a5f067eb381cc37dfd10145a0d134c38", func := "althing/althinglaw13.RepairDecides", spec := "repairDecides", unfollowed := true, recurses := true, apart := false }
def RepairDecidesSaid : Prop := repairDecidesRow.holds Try.pinned (OpenSpec.ofChange repairDecidesSpec)

/-- ITS FALSE NEIGHBOUR: 'it returns false'. Refute it at one input. -/
def repairDecidesWrong : ChangeSpec := { name := "repairDecides", fn := fun _ => fun
  | [d1, d2, d3] => { results := [.lit (.bool false)], args := [d1, d2, d3] }
  | _ => none }
def RepairDecidesWrongFalsely : Prop := repairDecidesRow.holds Try.pinned (OpenSpec.ofChange repairDecidesWrong)

/-- 'althinglaw13.RepairFast': WHATEVER THE INPUT: true; the input reads as it did. -/
def repairFastSpec : ChangeSpec := { name := "repairFast", fn := fun _ => fun
  | [d1, d2, d3, d4, d5] => { results := [.lit (.bool true)], args := [d1, d2, d3, d4, d5] }
  | _ => none }
def repairFastRow : OpenClaim := { program := "ytnchceblpogpmaa", sum := "f268c0e6a713966fb5486180cb2485d3a5f067eb381cc37dfd10145a0d134c38", func := "althing/althinglaw13.RepairFast", spec := "repairFast", unfollowed := true, recurses := true, apart := false }
def RepairFastSaid : Prop := repairFastRow.holds Try.pinned (OpenSpec.ofChange repairFastSpec)

/-- ITS FALSE NEIGHBOUR: 'it returns false'. Refute it at one input. -/
def repairFastWrong : ChangeSpec := { name := "repairFast", fn := fun _ => fun
  | [d1, d2, d3, d4, d5] => { results := [.lit (.bool false)], args := [d1, d2, d3, d4, d5] }
  | _ => none }
def RepairFastWrongFalsely : Prop := repairFastRow.holds Try.pinned (OpenSpec.ofChange repairFastWrong)

/-- 'althinglaw13.RepairAccepted': WHATEVER THE INPUT: true; the input reads as it did. -/
def repairAcceptedSpec : ChangeSpec := { name := "repairAccepted", fn := fun _ => fun
  | [d1, d2, d3, d4, d5] => { results := [.lit (.bool true)], args := [d1, d2, d3, d4, d5] }
  | _ => none }
def repairAcceptedRow : OpenClaim := { program := "ytnchceblpogpmaa", sum := "f268c0e6a713966fb5486180cb2485d3a5f067eb381cc37dfd10145a0d134c38", func := "althing/althinglaw13.RepairAccepted", spec := "repairAccepted", unfollowed := true, recurses := true, apart := false }
def RepairAcceptedSaid : Prop := repairAcceptedRow.holds Try.pinned (OpenSpec.ofChange repairAcceptedSpec)

/-- ITS FALSE NEIGHBOUR: 'it returns false'. Refute it at one input. -/
def repairAcceptedWrong : ChangeSpec := { name := "repairAccepted", fn := fun _ => fun
  | [d1, d2, d3, d4, d5] => { results := [.lit (.bool false)], args := [d1, d2, d3, d4, d5] }
  | _ => none }
def RepairAcceptedWrongFalsely : Prop := repairAcceptedRow.holds Try.pinned (OpenSpec.ofChange repairAcceptedWrong)

/-- 'althinglaw13.RepairSome': WHATEVER THE INPUT: true; the input reads as it did. -/
def repairSomeSpec : ChangeSpec := { name := "repairSome", fn := fun _ => fun
  | [d1, d2, d3] => { results := [.lit (.bool true)], args := [d1, d2, d3] }
  | _ => none }
def repairSomeRow : OpenClaim := { program := "ytnchceblpogpmaa", sum := "f268c0e6a713966fb5486180cb2485d3a5f067eb381cc37dfd10145a0d134c38", func := "althing/althinglaw13.RepairSome", spec := "repairSome", unfollowed := true, recurses := true, apart := false }
def RepairSomeSaid : Prop := repairSomeRow.holds Try.pinned (OpenSpec.ofChange repairSomeSpec)

/-- ITS FALSE NEIGHBOUR: 'it returns false'. Refute it at one input. -/
def repairSomeWrong : ChangeSpec := { name := "repairSome", fn := fun _ => fun
  | [d1, d2, d3] => { results := [.lit (.bool false)], args := [d1, d2, d3] }
  | _ => none }
def RepairSomeWrongFalsely : Prop := repairSomeRow.holds Try.pinned (OpenSpec.ofChange repairSomeWrong)

/-- 'althinglaw13.RepairTwice': WHATEVER THE INPUT: true; the input reads as it did. -/
def repairTwiceSpec : ChangeSpec := { name := "repairTwice", fn := fun _ => fun
  | [d1, d2, d3, d4, d5] => { results := [.lit (.bool true)], args := [d1, d2, d3, d4, d5] }
  | _ => none }
def repairTwiceRow : OpenClaim := { program := "ytnchceblpogpmaa", sum := "f268c0e6a713966fb5486180cb2485d3a5f067eb381cc37dfd10145a0d134c38", func := "althing/althinglaw13.RepairTwice", spec := "repairTwice", unfollowed := true, recurses := true, apart := false }
def RepairTwiceSaid : Prop := repairTwiceRow.holds Try.pinned (OpenSpec.ofChange repairTwiceSpec)

/-- ITS FALSE NEIGHBOUR: 'it returns false'. Refute it at one input. -/
def repairTwiceWrong : ChangeSpec := { name := "repairTwice", fn := fun _ => fun
  | [d1, d2, d3, d4, d5] => { results := [.lit (.bool false)], args := [d1, d2, d3, d4, d5] }
  | _ => none }
def RepairTwiceWrongFalsely : Prop := repairTwiceRow.holds Try.pinned (OpenSpec.ofChange repairTwiceWrong)

/- THE SECOND FORM. 'bulk': how many values and letters a reading holds, each counted each time it is reached (what is shared counts as often as it is met; a slice's spare places count too). A statement '..UptoSaid' is the law's where the arguments, and the package variables that the reading takes, are together of bulk at most 1048576: NARROWER than '..Said'. Prove '..Said' where nothing that the law and all that it calls make is longer than what came in: it says more and counts as full. Else prove '..UptoSaid'. A law counts once. -/
mutual
def uptoBulk {H : Type} : DataW H → Nat
  | .lit (.string bytes) => bytes.length + 1
  | .lit _ => 1
  | .nil => 1
  | .ptr d => uptoBulk d + 1
  | .slice elems spare => uptoBulkAll elems + uptoBulkAll spare + 1
  | .agg parts => uptoBulkAll parts + 1
  | .iface _ d => uptoBulk d + 1
  | .map entries => uptoBulkEntries entries + 1
  | .held _ => 1
def uptoBulkAll {H : Type} : List (DataW H) → Nat
  | [] => 0
  | d :: r => uptoBulk d + uptoBulkAll r
def uptoBulkEntries {H : Type} : List (Lit × DataW H) → Nat
  | [] => 0
  | x :: r => uptoBulkEntry x + uptoBulkEntries r
def uptoBulkEntry {H : Type} : Lit × DataW H → Nat
  | (.string bytes, d) => bytes.length + uptoBulk d + 1
  | (_, d) => uptoBulk d + 1
 end
def uptoSmall : (H : Type) → List (DataW H) → Bool := fun _ ds => decide (uptoBulkAll ds ≤ 1048576)
def OpenSpec.upto (s : _root_.Go.ChangeSpec) : _root_.Go.OpenSpec := { _root_.Go.OpenSpec.ofChange s with cond := some uptoSmall }

/-- 'althinglaw13.RepairDecides', WHERE WHAT IT READS IS OF BULK AT MOST 1048576: true; the input reads as it did. -/
def repairDecidesUptoRow : OpenClaim := { program := "ytnchceblpogpmaa", sum := "f268c0e6a713966fb5486180cb2485d3a5f067eb381cc37dfd10145a0d134c38", func := "althing/althinglaw13.RepairDecides", spec := "repairDecides", unfollowed := true, recurses := true, apart := false, narrowed := true }
def RepairDecidesUptoSaid : Prop := repairDecidesUptoRow.holds Try.pinned (OpenSpec.upto repairDecidesSpec)

/-- 'althinglaw13.RepairFast', WHERE WHAT IT READS IS OF BULK AT MOST 1048576: true; the input reads as it did. -/
def repairFastUptoRow : OpenClaim := { program := "ytnchceblpogpmaa", sum := "f268c0e6a713966fb5486180cb2485d3a5f067eb381cc37dfd10145a0d134c38", func := "althing/althinglaw13.RepairFast", spec := "repairFast", unfollowed := true, recurses := true, apart := false, narrowed := true }
def RepairFastUptoSaid : Prop := repairFastUptoRow.holds Try.pinned (OpenSpec.upto repairFastSpec)

/-- 'althinglaw13.RepairAccepted', WHERE WHAT IT READS IS OF BULK AT MOST 1048576: true; the input reads as it did. -/
def repairAcceptedUptoRow : OpenClaim := { program := "ytnchceblpogpmaa", sum := "f268c0e6a713966fb5486180cb2485d3a5f067eb381cc37dfd10145a0d134c38", func := "althing/althinglaw13.RepairAccepted", spec := "repairAccepted", unfollowed := true, recurses := true, apart := false, narrowed := true }
def RepairAcceptedUptoSaid : Prop := repairAcceptedUptoRow.holds Try.pinned (OpenSpec.upto repairAcceptedSpec)

/-- 'althinglaw13.RepairSome', WHERE WHAT IT READS IS OF BULK AT MOST 1048576: true; the input reads as it did. -/
def repairSomeUptoRow : OpenClaim := { program := "ytnchceblpogpmaa", sum := "f268c0e6a713966fb5486180cb2485d3a5f067eb381cc37dfd10145a0d134c38", func := "althing/althinglaw13.RepairSome", spec := "repairSome", unfollowed := true, recurses := true, apart := false, narrowed := true }
def RepairSomeUptoSaid : Prop := repairSomeUptoRow.holds Try.pinned (OpenSpec.upto repairSomeSpec)

/-- 'althinglaw13.RepairTwice', WHERE WHAT IT READS IS OF BULK AT MOST 1048576: true; the input reads as it did. -/
def repairTwiceUptoRow : OpenClaim := { program := "ytnchceblpogpmaa", sum := "f268c0e6a713966fb5486180cb2485d3a5f067eb381cc37dfd10145a0d134c38", func := "althing/althinglaw13.RepairTwice", spec := "repairTwice", unfollowed := true, recurses := true, apart := false, narrowed := true }
def RepairTwiceUptoSaid : Prop := repairTwiceUptoRow.holds Try.pinned (OpenSpec.upto repairTwiceSpec)

end Rows
end Go.Proofs.Ytnchceblpogpmaa
