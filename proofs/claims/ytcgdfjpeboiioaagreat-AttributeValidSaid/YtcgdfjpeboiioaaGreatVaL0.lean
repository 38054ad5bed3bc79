import Derived.Test.YtcgdfjpeboiioaaGreatProg
import Derived.Test.YtcgdfjpeboiioaaGreatVaAD
import Derived.Test.YtcgdfjpeboiioaaGreatVaD
namespace Go.Proofs.YtcgdfjpeboiioaaGreat
open Go Go.Abs Go.RowKit
theorem oInt : Opn Tryz.prog 3 kInt (fun x => (Lit.int .i64 x).wf = true) := op_int (by kernel_rfl) Tryz.underlying3 (fun _ => rfl)
theorem oBool : Opn Tryz.prog 4 kBool (fun _ => True) := op_bool (by kernel_rfl) Tryz.underlying4
theorem oStr : Opn Tryz.prog 9 kStr (fun s => s.length ≤ reachBytes) := op_str (by kernel_rfl) Tryz.underlying9
theorem oInts : Opn Tryz.prog 26 (kSl kInt) (fun xs => xs.length ≤ reachBytes ∧ ∀ x ∈ xs, (Lit.int .i64 x).wf = true) := op_slice oInt (by decide) (of_decide_eq_true (by kernel_rfl)) (by kernel_rfl) Tryz.underlying26
theorem oEdge : Opn Tryz.prog 109 kEdge (fun _ => True) := op_struct Tryz.underlying109 (by kernel_rfl) (.cons oInt rfl (.cons oInt rfl (.cons oInt rfl .nil))) rfl (fun v => Edge.mk v.1 v.2.1 v.2.2.1) (fun _ => rfl) (fun _ _ => trivial)
theorem oEdges : Opn Tryz.prog 36 (kSl kEdge) (fun xs => xs.length ≤ reachBytes ∧ ∀ x ∈ xs, True) := op_slice oEdge (by decide) (of_decide_eq_true (by kernel_rfl)) (by kernel_rfl) Tryz.underlying36
theorem oGraph : Opn Tryz.prog 38 kGraph (fun _ => True) := op_struct Tryz.underlying38 (by kernel_rfl) (.cons oInts rfl (.cons oEdges rfl .nil)) rfl (fun v => Graph.mk v.1 v.2.1) (fun _ => rfl) (fun _ _ => trivial)
theorem oMorphism : Opn Tryz.prog 64 kMorphism (fun _ => True) := op_struct Tryz.underlying64 (by kernel_rfl) (.cons oInts rfl (.cons oInts rfl .nil)) rfl (fun v => Morphism.mk v.1 v.2.1) (fun _ => rfl) (fun _ _ => trivial)
theorem oStrs : Opn Tryz.prog 93 (kSl kStr) (fun xs => xs.length ≤ reachBytes ∧ ∀ x ∈ xs, x.length ≤ reachBytes) := op_slice oStr (by decide) (of_decide_eq_true (by kernel_rfl)) (by kernel_rfl) Tryz.underlying93
theorem oAttr : Opn Tryz.prog 95 kAttr (fun _ => True) := op_struct Tryz.underlying95 (by kernel_rfl) (.cons oStr rfl (.cons oInt rfl (.cons oInt rfl (.cons oStrs rfl .nil)))) rfl (fun v => Attr.mk v.1 v.2.1 v.2.2.1 v.2.2.2.1) (fun _ => rfl) (fun _ _ => trivial)
theorem oAttrs : Opn Tryz.prog 90 (kSl kAttr) (fun xs => xs.length ≤ reachBytes ∧ ∀ x ∈ xs, True) := op_slice oAttr (by decide) (of_decide_eq_true (by kernel_rfl)) (by kernel_rfl) Tryz.underlying90
theorem oNodeType : Opn Tryz.prog 92 kNodeType (fun n => n.fAttrs.length ≤ 140737488351232) := op_struct Tryz.underlying92 (by kernel_rfl) (.cons oStr rfl (.cons oInt rfl (.cons oBool rfl (.cons oAttrs rfl .nil)))) rfl (fun v => NodeType.mk v.1 v.2.1 v.2.2.1 v.2.2.2.1) (fun _ => rfl) (fun v h => h.2.2.2.1.1)
theorem oEdgeType : Opn Tryz.prog 97 kEdgeType (fun _ => True) := op_struct Tryz.underlying97 (by kernel_rfl) (.cons oStr rfl (.cons oInt rfl (.cons oInt rfl (.cons oInt rfl (.cons oInt rfl (.cons oInt rfl (.cons oInt rfl .nil))))))) rfl (fun v => EdgeType.mk v.1 v.2.1 v.2.2.1 v.2.2.2.1 v.2.2.2.2.1 v.2.2.2.2.2.1 v.2.2.2.2.2.2.1) (fun _ => rfl) (fun _ _ => trivial)
theorem oNodeTypes : Opn Tryz.prog 32 (kSl kNodeType) (fun xs => xs.length ≤ reachBytes ∧ ∀ x ∈ xs, x.fAttrs.length ≤ 140737488351232) := op_slice oNodeType (by decide) (of_decide_eq_true (by kernel_rfl)) (by kernel_rfl) Tryz.underlying32
theorem oEdgeTypes : Opn Tryz.prog 33 (kSl kEdgeType) (fun xs => xs.length ≤ reachBytes ∧ ∀ x ∈ xs, True) := op_slice oEdgeType (by decide) (of_decide_eq_true (by kernel_rfl)) (by kernel_rfl) Tryz.underlying33
theorem oTypes : Opn Tryz.prog 35 kTypes (fun t => ∀ n ∈ t.fNodes, n.fAttrs.length ≤ 140737488351232) := op_struct Tryz.underlying35 (by kernel_rfl) (.cons oNodeTypes rfl (.cons oEdgeTypes rfl .nil)) rfl (fun v => Types.mk v.1 v.2.1) (fun _ => rfl) (fun v h => h.1.2)
theorem oTerm : Opn Tryz.prog 23 kTerm (fun _ => True) := op_struct Tryz.underlying23 (by kernel_rfl) (.cons oInt rfl (.cons oInt rfl .nil)) rfl (fun v => Term.mk v.1 v.2.1) (fun _ => rfl) (fun _ _ => trivial)
theorem oSlot : Opn Tryz.prog 113 kSlot (fun _ => True) := op_struct Tryz.underlying113 (by kernel_rfl) (.cons oInt rfl (.cons oInt rfl (.cons oTerm rfl .nil))) rfl (fun v => Slot.mk v.1 v.2.1 v.2.2.1) (fun _ => rfl) (fun _ _ => trivial)
theorem oSlots : Opn Tryz.prog 39 (kSl kSlot) (fun xs => xs.length ≤ reachBytes ∧ ∀ x ∈ xs, True) := op_slice oSlot (by decide) (of_decide_eq_true (by kernel_rfl)) (by kernel_rfl) Tryz.underlying39
theorem oTest : Opn Tryz.prog 86 kTest (fun _ => True) := op_struct Tryz.underlying86 (by kernel_rfl) (.cons oInt rfl (.cons oTerm rfl (.cons oTerm rfl .nil))) rfl (fun v => Test.mk v.1 v.2.1 v.2.2.1) (fun _ => rfl) (fun _ _ => trivial)
theorem oTests : Opn Tryz.prog 40 (kSl kTest) (fun xs => xs.length ≤ reachBytes ∧ ∀ x ∈ xs, True) := op_slice oTest (by decide) (of_decide_eq_true (by kernel_rfl)) (by kernel_rfl) Tryz.underlying40
theorem oPattern : Opn Tryz.prog 42 kPattern (fun _ => True) := op_struct Tryz.underlying42 (by kernel_rfl) (.cons oGraph rfl (.cons oSlots rfl (.cons oInt rfl (.cons oTests rfl .nil)))) rfl (fun v => Pattern.mk v.1 v.2.1 v.2.2.1 v.2.2.2.1) (fun _ => rfl) (fun _ _ => trivial)
theorem oIntss : Opn Tryz.prog 58 (kSl (kSl kInt)) (fun xs => xs.length ≤ reachBytes ∧ ∀ x ∈ xs, x.length ≤ reachBytes ∧ ∀ y ∈ x, (Lit.int .i64 y).wf = true) := op_slice oInts (by decide) (of_decide_eq_true (by kernel_rfl)) (by kernel_rfl) Tryz.underlying58
theorem oHost : Opn Tryz.prog 60 kHost (fun _ => True) := op_struct Tryz.underlying60 (by kernel_rfl) (.cons oGraph rfl (.cons oIntss rfl .nil)) rfl (fun v => Host.mk v.1 v.2.1) (fun _ => rfl) (fun _ _ => trivial)
theorem i32_wf {x : Int} (h : (Lit.int .i32 x).wf = true) : -2147483648 ≤ x ∧ x ≤ 2147483647 := by
  simp [Lit.wf, IntKind.min, IntKind.max, IntKind.bits, IntKind.signed] at h
  omega
theorem cI32 : Tryz.prog.cellsOf 21 = 1 := by kernel_rfl
theorem oI32 : Opn Tryz.prog 21 kI32 (fun x => (Lit.int .i32 x).wf = true) := op_int cI32 Tryz.underlying21 (fun _ => rfl)
theorem oI32s : Opn Tryz.prog 24 (kSl kI32) (fun xs => xs.length ≤ reachBytes ∧ ∀ x ∈ xs, (Lit.int .i32 x).wf = true) := op_slice oI32 (by decide) (of_decide_eq_true (by kernel_rfl)) (by kernel_rfl) Tryz.underlying24
end Go.Proofs.YtcgdfjpeboiioaaGreat
