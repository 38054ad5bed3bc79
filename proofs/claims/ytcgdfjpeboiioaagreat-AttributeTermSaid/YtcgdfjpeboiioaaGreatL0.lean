/- The types that the law is handed: their Lean values. -/
import Derived.Test.YtcgdfjpeboiioaaGreatProg
import Derived.Test.YtcgdfjpeboiioaaGreatAD
import Derived.Test.YtcgdfjpeboiioaaGreatT1
namespace Go.Proofs.YtcgdfjpeboiioaaGreat
open Go Go.Abs Go.RowKit
theorem i32_wf {x : Int} (h : (Lit.int .i32 x).wf = true) : I32 x := by
  simp [Lit.wf, IntKind.min, IntKind.max, IntKind.bits, IntKind.signed] at h
  unfold I32; omega
theorem cI : Tryz.prog.cellsOf 3 = 1 := by kernel_rfl
theorem oI : Opn Tryz.prog 3 kInt (fun x => (Lit.int .i64 x).wf = true) := op_int cI Tryz.underlying3 (fun _ => rfl)
theorem cI32 : Tryz.prog.cellsOf 21 = 1 := by kernel_rfl
theorem oI32 : Opn Tryz.prog 21 kI32 (fun x => (Lit.int .i32 x).wf = true) := op_int cI32 Tryz.underlying21 (fun _ => rfl)
theorem oI32s : Opn Tryz.prog 24 (kSl kI32) (fun xs => xs.length ≤ reachBytes ∧ ∀ x ∈ xs, (Lit.int .i32 x).wf = true) := op_slice oI32 (by decide) (of_decide_eq_true (by kernel_rfl)) (by kernel_rfl) Tryz.underlying24
theorem oTerm : Opn Tryz.prog 23 kTerm (fun _ => True) := op_struct Tryz.underlying23 (by kernel_rfl) (.cons oI rfl (.cons oI rfl .nil)) rfl (fun v => Term.mk v.1 v.2.1) (fun _ => rfl) (fun _ _ => trivial)
end Go.Proofs.YtcgdfjpeboiioaaGreat
