/-
  No cell of these rows narrows 'for every input' (looked for: loops, veiled, ifaces, maps, wideKeys, modest, calm, conditions, laid).
  DERIVED. THE GIVEN ROWS OF THIS SEAT. 6 by the template 'for every input the law returns true; each argument reads behind the call as it read before'; 0 by the template 'total and deterministic' (their statements: YtnldlkkcdgdkgaaTotals.lean).
  GIVEN WITH THE SEED: the statements are not yours to turn. If you find one false, say at which input.
  Laid BY PROGRAM, IN A SANDBOX (cutbox-rows.mjs): the forced cells as the released guide's own fill.sh prints them over the translation c76bcf29b2d2b3c6… (all of the seat's roots in one cut). By AI agents, Wed Nov 11 2026. No macro, syntax, notation, axiom, sorry.
-/
import Derived.Test.YtnldlkkcdgdkgaaChecked
import GoSem.Claim
import GoSem.ClaimJoined
import GoSem.ClaimMapViews
import Derived.JoinedTies
import Derived.KernelRfl
namespace Go.Proofs.Ytnldlkkcdgdkgaa
/- THE CELL 'sum', in the pinned program and in every row, IS THE sha256 OF THE DUMP (.gsa) THAT YtnldlkkcdgdkgaaProg.lean LOADS. Nothing in Lean hashes anything: it is a label: what it is worth is what the hold of that sum in a sandbox is worth. -/
noncomputable def Try.pinned : Pinned := { name := "ytnldlkkcdgdkgaa", sum := "c76bcf29b2d2b3c6db057b98b2a99a1c2f1b2c98c173d576a3863f1e8fa04c2d", checked := Try.checked }
namespace Rows
def none {H : Type} : Left H := { results := [], args := [] }

/-- 'althinglaw18.CheckChecks': WHATEVER THE INPUT: true; the input reads as it did. -/
def checkChecksSpec : ChangeSpec := { name := "checkChecks", fn := fun _ => fun
  | [d] => { results := [.lit (.bool true)], args := [d] }
  | _ => none }
def checkChecksRow : OpenClaim := { program := "ytnldlkkcdgdkgaa", sum := "c76bcf29b2d2b3c6db057b98b2a99a1c2f1b2c98c173d576a3863f1e8fa04c2d", func := "althing/althinglaw18.CheckChecks", spec := "checkChecks", unfollowed := true, recurses := true, plainKeys := false, apart := false }
def CheckChecksSaid : Prop := checkChecksRow.holds Try.pinned (OpenSpec.ofChange checkChecksSpec)

/-- ITS FALSE NEIGHBOUR: 'it returns false'. Refute it at one input. -/
def checkChecksWrong : ChangeSpec := { name := "checkChecks", fn := fun _ => fun
  | [d] => { results := [.lit (.bool false)], args := [d] }
  | _ => none }
def CheckChecksWrongFalsely : Prop := checkChecksRow.holds Try.pinned (OpenSpec.ofChange checkChecksWrong)

/-- 'althinglaw18.CheckSorts': WHATEVER THE INPUT: true; the input reads as it did. -/
def checkSortsSpec : ChangeSpec := { name := "checkSorts", fn := fun _ => fun
  | [d] => { results := [.lit (.bool true)], args := [d] }
  | _ => none }
def checkSortsRow : OpenClaim := { program := "ytnldlkkcdgdkgaa", sum := "c76bcf29b2d2b3c6db057b98b2a99a1c2f1b2c98c173d576a3863f1e8fa04c2d", func := "althing/althinglaw18.CheckSorts", spec := "checkSorts", unfollowed := true, recurses := true, plainKeys := false, apart := false }
def CheckSortsSaid : Prop := checkSortsRow.holds Try.pinned (OpenSpec.ofChange checkSortsSpec)

/-- ITS FALSE NEIGHBOUR: 'it returns false'. Refute it at one input. -/
def checkSortsWrong : ChangeSpec := { name := "checkSorts", fn := fun _ => fun
  | [d] => { results := [.lit (.bool false)], args := [d] }
  | _ => none }
def CheckSortsWrongFalsely : Prop := checkSortsRow.holds Try.pinned (OpenSpec.ofChange checkSortsWrong)

/-- 'althinglaw18.CheckRuns': WHATEVER THE INPUT: true; the input reads as it did. -/
def checkRunsSpec : ChangeSpec := { name := "checkRuns", fn := fun _ => fun
  | [d1, d2] => { results := [.lit (.bool true)], args := [d1, d2] }
  | _ => none }
def checkRunsRow : OpenClaim := { program := "ytnldlkkcdgdkgaa", sum := "c76bcf29b2d2b3c6db057b98b2a99a1c2f1b2c98c173d576a3863f1e8fa04c2d", func := "althing/althinglaw18.CheckRuns", spec := "checkRuns", unfollowed := true, recurses := true, plainKeys := false, apart := false }
def CheckRunsSaid : Prop := checkRunsRow.holds Try.pinned (OpenSpec.ofChange checkRunsSpec)

/-- ITS FALSE NEIGHBOUR: 'it returns false'. Refute it at one input. -/
def checkRunsWrong : ChangeSpec := { name := "checkRuns", fn := fun _ => fun
  | [d1, d2] => { results := [.lit (.bool false)], args := [d1, d2] }
  | _ => none }
def CheckRunsWrongFalsely : Prop := checkRunsRow.holds Try.pinned (OpenSpec.ofChange checkRunsWrong)

/-- 'althinglaw18.CheckOthers': WHATEVER THE INPUT: true; the input reads as it did. -/
def checkOthersSpec : ChangeSpec := { name := "checkOthers", fn := fun _ => fun
  | [d1, d2, d3] => { results := [.lit (.bool true)], args := [d1, d2, d3] }
  | _ => none }
def checkOthersRow : OpenClaim := { program := "ytnldlkkcdgdkgaa", sum := "c76bcf29b2d2b3c6db057b98b2a99a1c2f1b2c98c173d576a3863f1e8fa04c2d", func := "althing/althinglaw18.CheckOthers", spec := "checkOthers", unfollowed := true, recurses := true, plainKeys := false, apart := false }
def CheckOthersSaid : Prop := checkOthersRow.holds Try.pinned (OpenSpec.ofChange checkOthersSpec)

/-- ITS FALSE NEIGHBOUR: 'it returns false'. Refute it at one input. -/
def checkOthersWrong : ChangeSpec := { name := "checkOthers", fn := fun _ => fun
  | [d1, d2, d3] => { results := [.lit (.bool false)], args := [d1, d2, d3] }
  | _ => none }
def CheckOthersWrongFalsely : Prop := checkOthersRow.holds Try.pinned (OpenSpec.ofChange checkOthersWrong)

/-- 'althinglaw18.CheckOrder': WHATEVER THE INPUT: true; the input reads as it did. -/
def checkOrderSpec : ChangeSpec := { name := "checkOrder", fn := fun _ => fun
  | [d1, d2] => { results := [.lit (.bool true)], args := [d1, d2] }
  | _ => none }
def checkOrderRow : OpenClaim := { program := "ytnldlkkcdgdkgaa", sum := "c76bcf29b2d2b3c6db057b98b2a99a1c2f1b2c98c173d576a3863f1e8fa04c2d", func := "althing/althinglaw18.CheckOrder", spec := "checkOrder", unfollowed := true, recurses := true, plainKeys := false, apart := false }
def CheckOrderSaid : Prop := checkOrderRow.holds Try.pinned (OpenSpec.ofChange checkOrderSpec)

/-- ITS FALSE NEIGHBOUR: 'it returns false'. Refute it at one input. -/
def checkOrderWrong : ChangeSpec := { name := "checkOrder", fn := fun _ => fun
  | [d1, d2] => { results := [.lit (.bool false)], args := [d1, d2] }
  | _ => none }
def CheckOrderWrongFalsely : Prop := checkOrderRow.holds Try.pinned (OpenSpec.ofChange checkOrderWrong)

/-- 'althinglaw18.CheckLast': WHATEVER THE INPUT: true; the input reads as it did. -/
def checkLastSpec : ChangeSpec := { name := "checkLast", fn := fun _ => fun
  | [d1, d2] => { results := [.lit (.bool true)], args := [d1, d2] }
  | _ => none }
def checkLastRow : OpenClaim := { program := "ytnldlkkcdgdkgaa", sum := "c76bcf29b2d2b3c6db057b98b2a99a1c2f1b2c98c173d576a3863f1e8fa04c2d", func := "althing/althinglaw18.CheckLast", spec := "checkLast", unfollowed := true, recurses := true, plainKeys := false, apart := false }
def CheckLastSaid : Prop := checkLastRow.holds Try.pinned (OpenSpec.ofChange checkLastSpec)

/-- ITS FALSE NEIGHBOUR: 'it returns false'. Refute it at one input. -/
def checkLastWrong : ChangeSpec := { name := "checkLast", fn := fun _ => fun
  | [d1, d2] => { results := [.lit (.bool false)], args := [d1, d2] }
  | _ => none }
def CheckLastWrongFalsely : Prop := checkLastRow.holds Try.pinned (OpenSpec.ofChange checkLastWrong)

/- THE SECOND FORM. 'bulk': how many values and letters a reading holds, each counted each time it is reached (what is shared counts as often as it is met; a slice's spare places count too). A statement '..UptoSaid' is the law's where the arguments, and the package variables that the reading takes, are together of bulk at most 1048576: NARROWER than '..Said'. Prove '..Said' where nothing that the law and all that it calls make is longer than what came in: it says more and counts as full. Else prove '..UptoSaid'. A law counts once. -/
mutual
def uptoBulk {H : Type} : DataW H → Nat
  | .lit (.string bytes) => bytes.length + 1
  | .lit _ => 1
  | .nil => 1
  | .ptr d => uptoBulk d + 1
  | .slice elems spare => uptoBulkAll elems + uptoBulkAll spare + 1
  | .agg parts => uptoBulkAll parts + 1
  | .iface _ d => uptoBulk d + 1
  | .map entries => uptoBulkEntries entries + 1
  | .held _ => 1
def uptoBulkAll {H : Type} : List (DataW H) → Nat
  | [] => 0
  | d :: r => uptoBulk d + uptoBulkAll r
def uptoBulkEntries {H : Type} : List (Lit × DataW H) → Nat
  | [] => 0
  | x :: r => uptoBulkEntry x + uptoBulkEntries r
def uptoBulkEntry {H : Type} : Lit × DataW H → Nat
  | (.string bytes, d) => bytes.length + uptoBulk d + 1
  | (_, d) => uptoBulk d + 1
 end
def uptoSmall : (H : Type) → List (DataW H) → Bool := fun _ ds => decide (uptoBulkAll ds ≤ 1048576)
def OpenSpec.upto (s : _root_.Go.ChangeSpec) : _root_.Go.OpenSpec := { _root_.Go.OpenSpec.ofChange s with cond := some uptoSmall }

/-- 'althinglaw18.CheckChecks', WHERE WHAT IT READS IS OF BULK AT MOST 1048576: true; the input reads as it did. -/
def checkChecksUptoRow : OpenClaim := { program := "ytnldlkkcdgdkgaa", sum := "c76bcf29b2d2b3c6db057b98b2a99a1c2f1b2c98c173d576a3863f1e8fa04c2d", func := "althing/althinglaw18.CheckChecks", spec := "checkChecks", unfollowed := true, recurses := true, plainKeys := false, apart := false, narrowed := true }
def CheckChecksUptoSaid : Prop := checkChecksUptoRow.holds Try.pinned (OpenSpec.upto checkChecksSpec)

/-- 'althinglaw18.CheckSorts', WHERE WHAT IT READS IS OF BULK AT MOST 1048576: true; the input reads as it did. -/
def checkSortsUptoRow : OpenClaim := { program := "ytnldlkkcdgdkgaa", sum := "c76bcf29b2d2b3c6db057b98b2a99a1c2f1b2c98c173d576a3863f1e8fa04c2d", func := "althing/althinglaw18.CheckSorts", spec := "checkSorts", unfollowed := true, recurses := true, plainKeys := false, apart := false, narrowed := true }
def CheckSortsUptoSaid : Prop := checkSortsUptoRow.holds Try.pinned (OpenSpec.upto checkSortsSpec)

/-- 'althinglaw18.CheckRuns', WHERE WHAT IT READS IS OF BULK AT MOST 1048576: true; the input reads as it did. -/
def checkRunsUptoRow : OpenClaim := { program := "ytnldlkkcdgdkgaa", sum := "c76bcf29b2d2b3c6db057b98b2a99a1c2f1b2c98c173d576a3863f1e8fa04c2d", func := "althing/althinglaw18.CheckRuns", spec := "checkRuns", unfollowed := true, recurses := true, plainKeys := false, apart := false, narrowed := true }
def CheckRunsUptoSaid : Prop := checkRunsUptoRow.holds Try.pinned (OpenSpec.upto checkRunsSpec)

/-- 'althinglaw18.CheckOthers', WHERE WHAT IT READS IS OF BULK AT MOST 1048576: true; the input reads as it did. -/
def checkOthersUptoRow : OpenClaim := { program := "ytnldlkkcdgdkgaa", sum := "c76bcf29b2d2b3c6db057b98b2a99a1c2f1b2c98c173d576a3863f1e8fa04c2d", func := "althing/althinglaw18.CheckOthers", spec := "checkOthers", unfollowed := true, recurses := true, plainKeys := false, apart := false, narrowed := true }
def CheckOthersUptoSaid : Prop := checkOthersUptoRow.holds Try.pinned (OpenSpec.upto checkOthersSpec)

/-- 'althinglaw18.CheckOrder', WHERE WHAT IT READS IS OF BULK AT MOST 1048576: true; the input reads as it did. -/
def checkOrderUptoRow : OpenClaim := { program := "ytnldlkkcdgdkgaa", sum := "c76bcf29b2d2b3c6db057b98b2a99a1c2f1b2c98c173d576a3863f1e8fa04c2d", func := "althing/althinglaw18.CheckOrder", spec := "checkOrder", unfollowed := true, recurses := true, plainKeys := false, apart := false, narrowed := true }
def CheckOrderUptoSaid : Prop := checkOrderUptoRow.holds Try.pinned (OpenSpec.upto checkOrderSpec)

/-- 'althinglaw18.CheckLast', WHERE WHAT IT READS IS OF BULK AT MOST 1048576: true; the input reads as it did. -/
def checkLastUptoRow : OpenClaim := { program := "ytnldlkkcdgdkgaa", sum := "c76bcf29b2d2b3c6db057b98b2a99a1c2f1b2c98c173d576a3863f1e8fa04c2d", func := "althing/althinglaw18.CheckLast", spec := "checkLast", unfollowed := true, recurses := true, plainKeys := false, apart := false, narrowed := true }
def CheckLastUptoSaid : Prop := checkLastUptoRow.holds Try.pinned (OpenSpec.upto checkLastSpec)

end Rows
end Go.Proofs.Ytnldlkkcdgdkgaa
