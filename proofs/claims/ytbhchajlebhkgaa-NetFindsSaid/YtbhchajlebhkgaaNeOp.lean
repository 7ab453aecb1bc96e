/- Steps, read as data. -/
import Derived.Test.YtbhchajlebhkgaaOp1
import Derived.Test.YtbhchajlebhkgaaNe5
namespace Go.Proofs.Ytbhchajlebhkgaa.AX
open Go Go.RowKit
set_option linter.unusedSimpArgs false
set_option linter.unusedVariables false
set_option maxRecDepth 100000
set_option maxHeartbeats 4000000
theorem o_do : OpensR Try.prog 54 32 DoS.cs yes := (opensR_struct Try.underlying54 (by kernel_rfl) (opensRF_cons rfl o_int rfl (opensRF_cons rfl o_int rfl (opensRF_one rfl o_msg)))).imp (fun x => (⟨x.1, x.2.1, x.2.2⟩ : DoS)) (fun _ _ => rfl) fun _ _ => trivial
end Go.Proofs.Ytbhchajlebhkgaa.AX
