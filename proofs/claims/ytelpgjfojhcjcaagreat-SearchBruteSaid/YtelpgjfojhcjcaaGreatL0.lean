/- The types that the law is handed: their Lean values. -/
import Derived.Test.YtelpgjfojhcjcaaGreatProg
import Derived.Test.YtelpgjfojhcjcaaGreatAD
import Derived.Test.YtelpgjfojhcjcaaGreatT3
namespace Go.Proofs.YtelpgjfojhcjcaaGreat
open Go Go.Abs Go.RowKit
theorem u8_wf {x : Int} (h : (Lit.int .u8 x).wf = true) : U8 x := by
  simp [Lit.wf, IntKind.min, IntKind.max, IntKind.bits, IntKind.signed] at h
  unfold U8; omega
theorem cU8 : Tryz.prog.cellsOf 5 = 1 := by kernel_rfl
theorem oU8 : Opn Tryz.prog 5 kU8 (fun x => (Lit.int .u8 x).wf = true) := op_int cU8 Tryz.underlying5 (fun _ => rfl)
theorem oBytes : Opn Tryz.prog 53 (kSl kU8) (fun xs => xs.length ≤ reachBytes ∧ ∀ x ∈ xs, (Lit.int .u8 x).wf = true) := op_slice oU8 (by decide) (of_decide_eq_true (by kernel_rfl)) (by kernel_rfl) Tryz.underlying53
theorem oA2 : Opn Tryz.prog 120 kA2Int (fun a => U8 a.e0 ∧ U8 a.e1) := op_array (fs := [⟨ "", 5, 0, false, "", "", 0⟩, ⟨ "", 5, 1, false, "", "", 0⟩]) Tryz.underlying120 (by kernel_rfl) (.cons oU8 rfl (.cons oU8 rfl .nil)) rfl rfl
  (fun i f hi => by rw [cU8]; match i, hi with
    | 0, hi => cases hi; rfl
    | 1, hi => cases hi; rfl
    | n + 2, hi => simp at hi) (fun v => A2Int.mk v.1 v.2.1) (fun _ => rfl) (fun v h => ⟨u8_wf h.1, u8_wf h.2.1⟩)
theorem oA3 : Opn Tryz.prog 121 kA3Int (fun a => U8 a.e0 ∧ U8 a.e1 ∧ U8 a.e2) := op_array (fs := [⟨ "", 5, 0, false, "", "", 0⟩, ⟨ "", 5, 1, false, "", "", 0⟩, ⟨ "", 5, 2, false, "", "", 0⟩]) Tryz.underlying121 (by kernel_rfl) (.cons oU8 rfl (.cons oU8 rfl (.cons oU8 rfl .nil))) rfl rfl
  (fun i f hi => by rw [cU8]; match i, hi with
    | 0, hi => cases hi; rfl
    | 1, hi => cases hi; rfl
    | 2, hi => cases hi; rfl
    | n + 3, hi => simp at hi) (fun v => A3Int.mk v.1 v.2.1 v.2.2.1) (fun _ => rfl) (fun v h => ⟨u8_wf h.1, u8_wf h.2.1, u8_wf h.2.2.1⟩)
theorem oA2s : Opn Tryz.prog 52 (kSl kA2Int) (fun xs => xs.length ≤ reachBytes ∧ ∀ x ∈ xs, U8 x.e0 ∧ U8 x.e1) := op_slice oA2 (by decide) (of_decide_eq_true (by kernel_rfl)) (by kernel_rfl) Tryz.underlying52
theorem oA3s : Opn Tryz.prog 54 (kSl kA3Int) (fun xs => xs.length ≤ reachBytes ∧ ∀ x ∈ xs, U8 x.e0 ∧ U8 x.e1 ∧ U8 x.e2) := op_slice oA3 (by decide) (of_decide_eq_true (by kernel_rfl)) (by kernel_rfl) Tryz.underlying54
theorem oDraft : Opn Tryz.prog 56 kDraft DraftOk := op_struct Tryz.underlying56 (by kernel_rfl) (.cons oBytes rfl (.cons oA3s rfl .nil)) rfl (fun v => Draft.mk v.1 v.2.1) (fun _ => rfl) (fun _ h => ⟨fun x hx => u8_wf (h.1.2 x hx), h.2.1.2⟩)
theorem oDrafts : Opn Tryz.prog 58 kDrafts DraftsOk := op_struct Tryz.underlying58 (by kernel_rfl) (.cons oA2s rfl (.cons oA2s rfl (.cons oDraft rfl (.cons oDraft rfl .nil)))) rfl (fun v => Drafts.mk v.1 v.2.1 v.2.2.1 v.2.2.2.1) (fun _ => rfl) (fun _ h => ⟨h.1.2, h.2.1.2, h.2.2.1, h.2.2.2.1⟩)
end Go.Proofs.YtelpgjfojhcjcaaGreat
