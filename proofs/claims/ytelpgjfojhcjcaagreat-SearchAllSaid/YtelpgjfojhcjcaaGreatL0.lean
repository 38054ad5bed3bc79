/- The types that the laws of this chapter are handed: their Lean values. -/
import Derived.Test.YtelpgjfojhcjcaaGreatProg
import Derived.Test.YtelpgjfojhcjcaaGreatAD
import Derived.Test.YtelpgjfojhcjcaaGreatD
namespace Go.Proofs.YtelpgjfojhcjcaaGreat
open Go Go.Abs Go.RowKit
theorem oInt : Opn Tryz.prog 3 kInt (fun x => (Lit.int .i64 x).wf = true) := op_int (by kernel_rfl) Tryz.underlying3 (fun _ => rfl)
theorem oBool : Opn Tryz.prog 4 kBool (fun _ => True) := op_bool (by kernel_rfl) Tryz.underlying4
theorem oStr : Opn Tryz.prog 9 kStr (fun s => s.length ≤ reachBytes) := op_str (by kernel_rfl) Tryz.underlying9
theorem oInts : Opn Tryz.prog 26 (kSl kInt) (fun xs => xs.length ≤ reachBytes ∧ ∀ x ∈ xs, (Lit.int .i64 x).wf = true) := op_slice oInt (by decide) (of_decide_eq_true (by kernel_rfl)) (by kernel_rfl) Tryz.underlying26
theorem oEdge : Opn Tryz.prog 77 kEdge (fun _ => True) := op_struct Tryz.underlying77 (by kernel_rfl) (.cons oInt rfl (.cons oInt rfl (.cons oInt rfl .nil))) rfl (fun v => Edge.mk v.1 v.2.1 v.2.2.1) (fun _ => rfl) (fun _ _ => trivial)
theorem oEdges : Opn Tryz.prog 27 (kSl kEdge) (fun xs => xs.length ≤ reachBytes ∧ ∀ x ∈ xs, True) := op_slice oEdge (by decide) (of_decide_eq_true (by kernel_rfl)) (by kernel_rfl) Tryz.underlying27
theorem oGraph : Opn Tryz.prog 29 kGraph (fun _ => True) := op_struct Tryz.underlying29 (by kernel_rfl) (.cons oInts rfl (.cons oEdges rfl .nil)) rfl (fun v => Graph.mk v.1 v.2.1) (fun _ => rfl) (fun _ _ => trivial)
theorem oMorphism : Opn Tryz.prog 33 kMorphism (fun _ => True) := op_struct Tryz.underlying33 (by kernel_rfl) (.cons oInts rfl (.cons oInts rfl .nil)) rfl (fun v => Morphism.mk v.1 v.2.1) (fun _ => rfl) (fun _ _ => trivial)
theorem oStrs : Opn Tryz.prog 89 (kSl kStr) (fun xs => xs.length ≤ reachBytes ∧ ∀ x ∈ xs, x.length ≤ reachBytes) := op_slice oStr (by decide) (of_decide_eq_true (by kernel_rfl)) (by kernel_rfl) Tryz.underlying89
theorem oAttr : Opn Tryz.prog 91 kAttr (fun _ => True) := op_struct Tryz.underlying91 (by kernel_rfl) (.cons oStr rfl (.cons oInt rfl (.cons oInt rfl (.cons oStrs rfl .nil)))) rfl (fun v => Attr.mk v.1 v.2.1 v.2.2.1 v.2.2.2.1) (fun _ => rfl) (fun _ _ => trivial)
theorem oAttrs : Opn Tryz.prog 92 (kSl kAttr) (fun xs => xs.length ≤ reachBytes ∧ ∀ x ∈ xs, True) := op_slice oAttr (by decide) (of_decide_eq_true (by kernel_rfl)) (by kernel_rfl) Tryz.underlying92
theorem oNodeType : Opn Tryz.prog 94 kNodeType (fun n => n.fAttrs.length ≤ 140737488351232) := op_struct Tryz.underlying94 (by kernel_rfl) (.cons oStr rfl (.cons oInt rfl (.cons oBool rfl (.cons oAttrs rfl .nil)))) rfl (fun v => NodeType.mk v.1 v.2.1 v.2.2.1 v.2.2.2.1) (fun _ => rfl) (fun v h => h.2.2.2.1.1)
theorem oEdgeType : Opn Tryz.prog 96 kEdgeType (fun _ => True) := op_struct Tryz.underlying96 (by kernel_rfl) (.cons oStr rfl (.cons oInt rfl (.cons oInt rfl (.cons oInt rfl (.cons oInt rfl (.cons oInt rfl (.cons oInt rfl .nil))))))) rfl (fun v => EdgeType.mk v.1 v.2.1 v.2.2.1 v.2.2.2.1 v.2.2.2.2.1 v.2.2.2.2.2.1 v.2.2.2.2.2.2.1) (fun _ => rfl) (fun _ _ => trivial)
theorem oNodeTypes : Opn Tryz.prog 22 (kSl kNodeType) (fun xs => xs.length ≤ reachBytes ∧ ∀ x ∈ xs, x.fAttrs.length ≤ 140737488351232) := op_slice oNodeType (by decide) (of_decide_eq_true (by kernel_rfl)) (by kernel_rfl) Tryz.underlying22
theorem oEdgeTypes : Opn Tryz.prog 23 (kSl kEdgeType) (fun xs => xs.length ≤ reachBytes ∧ ∀ x ∈ xs, True) := op_slice oEdgeType (by decide) (of_decide_eq_true (by kernel_rfl)) (by kernel_rfl) Tryz.underlying23
theorem oTypes : Opn Tryz.prog 25 kTypes (fun t => ∀ n ∈ t.fNodes, n.fAttrs.length ≤ 140737488351232) := op_struct Tryz.underlying25 (by kernel_rfl) (.cons oNodeTypes rfl (.cons oEdgeTypes rfl .nil)) rfl (fun v => Types.mk v.1 v.2.1) (fun _ => rfl) (fun v h => h.1.2)
theorem oCase : Opn Tryz.prog 31 kCase (fun c => ∀ n ∈ c.fT.fNodes, n.fAttrs.length ≤ 140737488351232) := op_struct Tryz.underlying31 (by kernel_rfl) (.cons oTypes rfl (.cons oGraph rfl (.cons oGraph rfl .nil))) rfl (fun v => Case.mk v.1 v.2.1 v.2.2.1) (fun _ => rfl) (fun v h => h.1)
end Go.Proofs.YtelpgjfojhcjcaaGreat
