/- Trips, read as data. -/
import Derived.Test.YtnldlkkcdgdkgaaCh3
import Derived.Test.YtnldlkkcdgdkgaaAxRw
namespace Go.Proofs.Ytnldlkkcdgdkgaa.AX
open Go Go.RowKit
set_option linter.unusedSimpArgs false
set_option linter.unusedVariables false
set_option maxRecDepth 100000
set_option maxHeartbeats 4000000
def yes {α : Type} : α → Prop := fun _ => True
theorem o_int : OpensR Try.prog 3 1 (fun n => [i64 n]) yes := (opensR_int (k := .i64) Try.underlying3 (by kernel_rfl)).imp id (fun _ _ => rfl) fun _ _ => trivial
theorem o_str : OpensR Try.prog 9 1 (fun s => [V.str s]) yes := (opensR_string Try.underlying9 (by kernel_rfl)).imp id (fun _ _ => rfl) fun _ _ => trivial
def two (x : Int × Int) : List V := [i64 x.1, i64 x.2]
theorem o_txn : OpensR Try.prog 32 2 two yes := (opensR_struct Try.underlying32 (by kernel_rfl) (opensRF_cons rfl o_int rfl (opensRF_one rfl o_int))).imp id (fun _ _ => rfl) fun _ _ => trivial
theorem o_stm : OpensR Try.prog 34 2 two yes := (opensR_struct Try.underlying34 (by kernel_rfl) (opensRF_cons rfl o_int rfl (opensRF_one rfl o_int))).imp id (fun _ _ => rfl) fun _ _ => trivial
theorem o_seen : OpensR Try.prog 49 4 Sn.cs yes := (opensR_struct Try.underlying49 (by kernel_rfl) (opensRF_cons rfl o_str rfl (opensRF_cons rfl o_stm rfl (opensRF_one rfl o_str)))).imp (fun x => (⟨x.1, x.2.1.1, x.2.1.2, x.2.2⟩ : Sn)) (fun _ _ => rfl) fun _ _ => trivial
theorem o_write : OpensR Try.prog 47 2 Wr.cs yes := (opensR_struct Try.underlying47 (by kernel_rfl) (opensRF_cons rfl o_str rfl (opensRF_one rfl o_str))).imp (fun x => (⟨x.1, x.2⟩ : Wr)) (fun _ _ => rfl) fun _ _ => trivial
theorem o_seens : OpensR Try.prog 41 1 (fun l : List Sn => [V.sl (l.map Sn.cs)]) yes := (opensR_slice Try.underlying41 (by kernel_rfl) o_seen).imp id (fun _ _ => rfl) fun _ _ => trivial
theorem o_writes : OpensR Try.prog 36 1 (fun l : List Wr => [V.sl (l.map Wr.cs)]) yes := (opensR_slice Try.underlying36 (by kernel_rfl) o_write).imp id (fun _ _ => rfl) fun _ _ => trivial
theorem o_trip : OpensR Try.prog 43 7 Trp.cs yes := (opensR_struct Try.underlying43 (by kernel_rfl) (opensRF_cons rfl o_txn rfl (opensRF_cons rfl o_stm rfl (opensRF_cons rfl o_seens rfl (opensRF_cons rfl o_writes rfl (opensRF_one rfl o_int)))))).imp (fun x => (⟨x.1.1, x.1.2, x.2.1.1, x.2.1.2, x.2.2.1, x.2.2.2.1, x.2.2.2.2⟩ : Trp)) (fun _ _ => rfl) fun _ _ => trivial
end Go.Proofs.Ytnldlkkcdgdkgaa.AX
