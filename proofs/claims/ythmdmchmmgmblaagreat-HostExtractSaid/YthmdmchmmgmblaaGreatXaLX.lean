/- A part of a graph: its Lean value. -/
import Derived.Test.YthmdmchmmgmblaaGreatXaL0
namespace Go.Proofs.YthmdmchmmgmblaaGreat
open Go Go.Abs Go.RowKit
theorem oPart : Opn Tryz.prog 87 kPart (fun p => p.fNodes.length ≤ 140737488351232 ∧ p.fEdges.length ≤ 140737488351232) := op_struct Tryz.underlying87 (by kernel_rfl) (.cons oInts rfl (.cons oInts rfl .nil)) rfl (fun v => Part.mk v.1 v.2.1) (fun _ => rfl) (fun _ h => ⟨h.1.1, h.2.1.1⟩)
end Go.Proofs.YthmdmchmmgmblaaGreat
