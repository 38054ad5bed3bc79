/- The example of the chapter, evaluated. -/
import Derived.Test.YthmdmchmmgmblaaGreatCnD
namespace Go.Proofs.YthmdmchmmgmblaaGreat
set_option maxRecDepth 100000 in
theorem awake_6000 : law15_awake 6000 = some true := by decide +kernel
end Go.Proofs.YthmdmchmmgmblaaGreat
