/- The types that the laws of this chapter are handed: their Lean values. -/
import Derived.Test.YthmdmchmmgmblaaGreatProg
import Derived.Test.YthmdmchmmgmblaaGreatAD
import Derived.Test.YthmdmchmmgmblaaGreatCnD
namespace Go.Proofs.YthmdmchmmgmblaaGreat
open Go Go.Abs Go.RowKit
theorem oInt : Opn Tryz.prog 3 kInt (fun x => (Lit.int .i64 x).wf = true) := op_int (by kernel_rfl) Tryz.underlying3 (fun _ => rfl)
theorem oBool : Opn Tryz.prog 4 kBool (fun _ => True) := op_bool (by kernel_rfl) Tryz.underlying4
theorem oStr : Opn Tryz.prog 9 kStr (fun s => s.length ≤ reachBytes) := op_str (by kernel_rfl) Tryz.underlying9
theorem oInts : Opn Tryz.prog 26 (kSl kInt) (fun xs => xs.length ≤ reachBytes ∧ ∀ x ∈ xs, (Lit.int .i64 x).wf = true) := op_slice oInt (by decide) (of_decide_eq_true (by kernel_rfl)) (by kernel_rfl) Tryz.underlying26
theorem oEdge : Opn Tryz.prog 63 kEdge (fun _ => True) := op_struct Tryz.underlying63 (by kernel_rfl) (.cons oInt rfl (.cons oInt rfl (.cons oInt rfl .nil))) rfl (fun v => Edge.mk v.1 v.2.1 v.2.2.1) (fun _ => rfl) (fun _ _ => trivial)
theorem oEdges : Opn Tryz.prog 27 (kSl kEdge) (fun xs => xs.length ≤ reachBytes ∧ ∀ x ∈ xs, True) := op_slice oEdge (by decide) (of_decide_eq_true (by kernel_rfl)) (by kernel_rfl) Tryz.underlying27
theorem oGraph : Opn Tryz.prog 29 kGraph (fun _ => True) := op_struct Tryz.underlying29 (by kernel_rfl) (.cons oInts rfl (.cons oEdges rfl .nil)) rfl (fun v => Graph.mk v.1 v.2.1) (fun _ => rfl) (fun _ _ => trivial)
theorem oMorphism : Opn Tryz.prog 47 kMorphism (fun _ => True) := op_struct Tryz.underlying47 (by kernel_rfl) (.cons oInts rfl (.cons oInts rfl .nil)) rfl (fun v => Morphism.mk v.1 v.2.1) (fun _ => rfl) (fun _ _ => trivial)
theorem oStrs : Opn Tryz.prog 115 (kSl kStr) (fun xs => xs.length ≤ reachBytes ∧ ∀ x ∈ xs, x.length ≤ reachBytes) := op_slice oStr (by decide) (of_decide_eq_true (by kernel_rfl)) (by kernel_rfl) Tryz.underlying115
theorem oAttr : Opn Tryz.prog 117 kAttr (fun _ => True) := op_struct Tryz.underlying117 (by kernel_rfl) (.cons oStr rfl (.cons oInt rfl (.cons oInt rfl (.cons oStrs rfl .nil)))) rfl (fun v => Attr.mk v.1 v.2.1 v.2.2.1 v.2.2.2.1) (fun _ => rfl) (fun _ _ => trivial)
theorem oAttrs : Opn Tryz.prog 118 (kSl kAttr) (fun xs => xs.length ≤ reachBytes ∧ ∀ x ∈ xs, True) := op_slice oAttr (by decide) (of_decide_eq_true (by kernel_rfl)) (by kernel_rfl) Tryz.underlying118
theorem oNodeType : Opn Tryz.prog 120 kNodeType (fun n => n.fAttrs.length ≤ 140737488351232) := op_struct Tryz.underlying120 (by kernel_rfl) (.cons oStr rfl (.cons oInt rfl (.cons oBool rfl (.cons oAttrs rfl .nil)))) rfl (fun v => NodeType.mk v.1 v.2.1 v.2.2.1 v.2.2.2.1) (fun _ => rfl) (fun v h => h.2.2.2.1.1)
theorem oEdgeType : Opn Tryz.prog 60 kEdgeType (fun _ => True) := op_struct Tryz.underlying60 (by kernel_rfl) (.cons oStr rfl (.cons oInt rfl (.cons oInt rfl (.cons oInt rfl (.cons oInt rfl (.cons oInt rfl (.cons oInt rfl .nil))))))) rfl (fun v => EdgeType.mk v.1 v.2.1 v.2.2.1 v.2.2.2.1 v.2.2.2.2.1 v.2.2.2.2.2.1 v.2.2.2.2.2.2.1) (fun _ => rfl) (fun _ _ => trivial)
theorem oNodeTypes : Opn Tryz.prog 22 (kSl kNodeType) (fun xs => xs.length ≤ reachBytes ∧ ∀ x ∈ xs, x.fAttrs.length ≤ 140737488351232) := op_slice oNodeType (by decide) (of_decide_eq_true (by kernel_rfl)) (by kernel_rfl) Tryz.underlying22
theorem oEdgeTypes : Opn Tryz.prog 23 (kSl kEdgeType) (fun xs => xs.length ≤ reachBytes ∧ ∀ x ∈ xs, True) := op_slice oEdgeType (by decide) (of_decide_eq_true (by kernel_rfl)) (by kernel_rfl) Tryz.underlying23
theorem oTypes : Opn Tryz.prog 25 kTypes (fun t => ∀ n ∈ t.fNodes, n.fAttrs.length ≤ 140737488351232) := op_struct Tryz.underlying25 (by kernel_rfl) (.cons oNodeTypes rfl (.cons oEdgeTypes rfl .nil)) rfl (fun v => Types.mk v.1 v.2.1) (fun _ => rfl) (fun v h => h.1.2)
theorem oIntss : Opn Tryz.prog 30 (kSl (kSl kInt)) (fun xs => xs.length ≤ reachBytes ∧ ∀ x ∈ xs, x.length ≤ reachBytes ∧ ∀ y ∈ x, (Lit.int .i64 y).wf = true) := op_slice oInts (by decide) (of_decide_eq_true (by kernel_rfl)) (by kernel_rfl) Tryz.underlying30
theorem oHost : Opn Tryz.prog 32 kHost (fun h => ∀ l ∈ h.fValues, ∀ x ∈ l, (Lit.int .i64 x).wf = true) := op_struct Tryz.underlying32 (by kernel_rfl) (.cons oGraph rfl (.cons oIntss rfl .nil)) rfl (fun v => Host.mk v.1 v.2.1) (fun _ => rfl) (fun v h l hl x hx => (h.2.1.2 l hl).2 x hx)
theorem wf_inR {x : Int} (h : (Lit.int .i64 x).wf = true) : inR x := by
  simp [Lit.wf, IntKind.min, IntKind.max, IntKind.bits, IntKind.signed] at h
  unfold inR; omega
end Go.Proofs.YthmdmchmmgmblaaGreat
