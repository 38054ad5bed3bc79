import Derived.Test.YtcgdfjpeboiioaaGreatVaD
namespace Go.Proofs.YtcgdfjpeboiioaaGreat
open Go Go.Abs
theorem awake_6000 : law21_awake 6000 = some true := by decide +kernel
end Go.Proofs.YtcgdfjpeboiioaaGreat
