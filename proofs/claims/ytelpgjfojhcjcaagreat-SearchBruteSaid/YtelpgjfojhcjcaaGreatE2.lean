/- The chapter's example holds, with more fuel: evaluated by the kernel. -/
import Derived.Test.YtelpgjfojhcjcaaGreatD
namespace Go.Proofs.YtelpgjfojhcjcaaGreat
open Go Go.Abs
theorem awake_6000 : law17_awake 6000 = some true := by decide +kernel
end Go.Proofs.YtelpgjfojhcjcaaGreat
