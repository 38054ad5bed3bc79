/- The chapter's example holds: evaluated by the kernel. -/
import Derived.Test.YtelpgjfojhcjcaaD
namespace Go.Proofs.Ytelpgjfojhcjcaa
open Go Go.Abs
theorem awake_6000 : law17_awake 6000 = some true := by decide +kernel
end Go.Proofs.Ytelpgjfojhcjcaa
