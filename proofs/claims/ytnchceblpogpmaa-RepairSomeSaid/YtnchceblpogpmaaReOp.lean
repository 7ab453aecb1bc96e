/- Votes, read as data. -/
import Derived.Test.YtnchceblpogpmaaOp1
import Derived.Test.YtnchceblpogpmaaRe1
namespace Go.Proofs.Ytnchceblpogpmaa.AX
open Go Go.RowKit
set_option linter.unusedSimpArgs false
set_option linter.unusedVariables false
set_option maxRecDepth 100000
set_option maxHeartbeats 4000000
theorem o_vote : OpensR Try.prog 56 26 VoteS.cs yes := (opensR_struct Try.underlying56 (by kernel_rfl) (opensRF_cons rfl o_int rfl (opensRF_one rfl o_rec))).imp (fun x => (⟨x.1, x.2⟩ : VoteS)) (fun _ _ => rfl) fun _ _ => trivial
end Go.Proofs.Ytnchceblpogpmaa.AX
