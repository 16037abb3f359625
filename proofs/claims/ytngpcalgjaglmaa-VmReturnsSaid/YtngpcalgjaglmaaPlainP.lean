/- What every row's proof of this seat imports. -/
import Derived.Test.YtngpcalgjaglmaaLib
import Derived.ProofKit
import Derived.OpenShut
import Derived.ChangeOld
namespace Go.Proofs.Ytngpcalgjaglmaa
theorem ownKnobNone : ownKnob Try.prog.godebug = none := by kernel_rfl
theorem laidOutB_ok : laidOutB Try.prog = true := by kernel_rfl
end Go.Proofs.Ytngpcalgjaglmaa
