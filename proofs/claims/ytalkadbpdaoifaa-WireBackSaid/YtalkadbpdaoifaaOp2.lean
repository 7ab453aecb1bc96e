/- Messages, read as data. -/
import Derived.Test.YtalkadbpdaoifaaOp1
namespace Go.Proofs.Ytalkadbpdaoifaa.AX
open Go Go.RowKit
set_option linter.unusedSimpArgs false
set_option linter.unusedVariables false
set_option maxRecDepth 100000
theorem o_msg : OpensR Try.prog 39 30 Msg.cs yes := (opensR_struct Try.underlying39 (by kernel_rfl) (opensRF_cons rfl o_int rfl (opensRF_cons rfl o_int rfl (opensRF_cons rfl o_int rfl (opensRF_cons rfl o_bal rfl (opensRF_one rfl o_rec)))))).imp
  (fun x => (⟨x.1, x.2.1, x.2.2.1, x.2.2.2.1.1, x.2.2.2.1.2, x.2.2.2.2⟩ : Msg)) (fun _ _ => rfl) fun _ _ => trivial
end Go.Proofs.Ytalkadbpdaoifaa.AX
