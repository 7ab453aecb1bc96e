/- What can be read at a struct's type is of its kind. (Printed by a program of this claim's own.) -/
import Derived.Test.YtpaphcoloogdlaaOpen
import Derived.Test.YtpaphcoloogdlaaPDiskPlaysx0
namespace Go.Proofs.Ytpaphcoloogdlaa.Open
open Go.RowKit Go.ChangeShapes Go.WideShapes Go.ChangeAt Go.Proofs.YtpaphcoloogdlaaW.PrintWords Go.Proofs.Ytpaphcoloogdlaa.PDiskPlays
set_option linter.unusedVariables false
set_option maxRecDepth 100000
def wf40 (x : S40) : Prop := (Lit.int .i64 x.f0).wf = true ∧ (Lit.int .i64 x.f1).wf = true ∧ (Lit.int .i64 x.f2).wf = true ∧ (Lit.int .u8 x.f3).wf = true ∧ (∀ y0 ∈ x.f4, (Lit.int .u8 y0).wf = true)
theorem open40 : Opens Try.prog 40 k40 wf40 := (opens_iso (fun x : S40 => (x.f0, x.f1, x.f2, x.f3, x.f4)) (fun a => ⟨a.1, a.2.1, a.2.2.1, a.2.2.2.1, a.2.2.2.2⟩) (fun _ => rfl) (opens_struct Try.underlying40 (by kernel_rfl) (opensF_cons rfl (opens_int (by kernel_rfl) (by kernel_rfl)) rfl (opensF_cons rfl (opens_int (by kernel_rfl) (by kernel_rfl)) rfl (opensF_cons rfl (opens_int (by kernel_rfl) (by kernel_rfl)) rfl (opensF_cons rfl (opens_int (by kernel_rfl) (by kernel_rfl)) rfl (opensF_one rfl (opens_slice (e := 5) (by kernel_rfl) (by kernel_rfl) (opens_int (by kernel_rfl) (by kernel_rfl)))))))))).imp fun _ h => h
end Go.Proofs.Ytpaphcoloogdlaa.Open
