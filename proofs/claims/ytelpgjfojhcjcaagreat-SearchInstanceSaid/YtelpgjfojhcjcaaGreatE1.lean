/- The chapter's example holds: evaluated by the kernel. -/
import Derived.Test.YtelpgjfojhcjcaaGreatD
namespace Go.Proofs.YtelpgjfojhcjcaaGreat
open Go Go.Abs
theorem awake_200 : law17_awake 200 = some true := by decide +kernel
end Go.Proofs.YtelpgjfojhcjcaaGreat
