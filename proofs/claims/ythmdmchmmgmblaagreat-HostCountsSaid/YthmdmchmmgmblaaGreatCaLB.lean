/- Drafts and lists of bytes: their Lean values. -/
import Derived.Test.YthmdmchmmgmblaaGreatCaL0
namespace Go.Proofs.YthmdmchmmgmblaaGreat
open Go Go.Abs Go.RowKit
theorem okWide_array {P : Program} {w : World} {r : Reach} {base : Nat} {t : TypeId} {v : Value} {n : Nat} {e : TypeId} (ht : P.underlying t = some (.array n e)) (h : Value.okWide P w r base t v) : ∃ cs, v = .agg cs ∧ cs.size = P.cellsOf t := by
  simp only [Value.okWide, ht] at h
  obtain ⟨cs, h1, h2, _⟩ := h
  exact ⟨cs, h1, h2⟩
theorem u8_wf {x : Int} (h : (Lit.int .u8 x).wf = true) : 0 ≤ x ∧ x ≤ 255 := by
  simp [Lit.wf, IntKind.min, IntKind.max, IntKind.bits, IntKind.signed] at h
  omega
theorem cU8 : Tryz.prog.cellsOf 5 = 1 := by kernel_rfl
theorem oU8 : Opn Tryz.prog 5 kU8 (fun x => (Lit.int .u8 x).wf = true) := op_int cU8 Tryz.underlying5 (fun _ => rfl)
theorem oA2 : Opn Tryz.prog 122 kA2Int (fun a => (0 ≤ a.e0 ∧ a.e0 ≤ 255) ∧ (0 ≤ a.e1 ∧ a.e1 ≤ 255)) := op_array (fs := [⟨ "", 5, 0, false, "", "", 0⟩, ⟨ "", 5, 1, false, "", "", 0⟩]) Tryz.underlying122 (by kernel_rfl) (.cons oU8 rfl (.cons oU8 rfl .nil)) rfl rfl
  (fun i f hi => by rw [cU8]; match i, hi with
    | 0, hi => cases hi; rfl
    | 1, hi => cases hi; rfl
    | n + 2, hi => simp at hi) (fun v => A2Int.mk v.1 v.2.1) (fun _ => rfl) (fun v h => ⟨u8_wf h.1, u8_wf h.2.1⟩)
theorem oA3 : Opn Tryz.prog 125 kA3Int (fun a => (0 ≤ a.e0 ∧ a.e0 ≤ 255) ∧ (0 ≤ a.e1 ∧ a.e1 ≤ 255) ∧ (0 ≤ a.e2 ∧ a.e2 ≤ 255)) := op_array (fs := [⟨ "", 5, 0, false, "", "", 0⟩, ⟨ "", 5, 1, false, "", "", 0⟩, ⟨ "", 5, 2, false, "", "", 0⟩]) Tryz.underlying125 (by kernel_rfl) (.cons oU8 rfl (.cons oU8 rfl (.cons oU8 rfl .nil))) rfl rfl
  (fun i f hi => by rw [cU8]; match i, hi with
    | 0, hi => cases hi; rfl
    | 1, hi => cases hi; rfl
    | 2, hi => cases hi; rfl
    | n + 3, hi => simp at hi) (fun v => A3Int.mk v.1 v.2.1 v.2.2.1) (fun _ => rfl) (fun v h => ⟨u8_wf h.1, u8_wf h.2.1, u8_wf h.2.2.1⟩)
theorem oA4 : Opn Tryz.prog 56 kA4Int (fun a => (0 ≤ a.e0 ∧ a.e0 ≤ 255) ∧ (0 ≤ a.e1 ∧ a.e1 ≤ 255) ∧ (0 ≤ a.e2 ∧ a.e2 ≤ 255) ∧ (0 ≤ a.e3 ∧ a.e3 ≤ 255)) := op_array (fs := [⟨ "", 5, 0, false, "", "", 0⟩, ⟨ "", 5, 1, false, "", "", 0⟩, ⟨ "", 5, 2, false, "", "", 0⟩, ⟨ "", 5, 3, false, "", "", 0⟩]) Tryz.underlying56 (by kernel_rfl) (.cons oU8 rfl (.cons oU8 rfl (.cons oU8 rfl (.cons oU8 rfl .nil)))) rfl rfl
  (fun i f hi => by rw [cU8]; match i, hi with
    | 0, hi => cases hi; rfl
    | 1, hi => cases hi; rfl
    | 2, hi => cases hi; rfl
    | 3, hi => cases hi; rfl
    | n + 4, hi => simp at hi) (fun v => A4Int.mk v.1 v.2.1 v.2.2.1 v.2.2.2.1) (fun _ => rfl) (fun v h => ⟨u8_wf h.1, u8_wf h.2.1, u8_wf h.2.2.1, u8_wf h.2.2.2.1⟩)
theorem oA2s : Opn Tryz.prog 52 (kSl kA2Int) (fun xs => xs.length ≤ reachBytes ∧ ∀ x ∈ xs, (0 ≤ x.e0 ∧ x.e0 ≤ 255) ∧ (0 ≤ x.e1 ∧ x.e1 ≤ 255)) := op_slice oA2 (by decide) (of_decide_eq_true (by kernel_rfl)) (by kernel_rfl) Tryz.underlying52
theorem oA3s : Opn Tryz.prog 53 (kSl kA3Int) (fun xs => xs.length ≤ reachBytes ∧ ∀ x ∈ xs, (0 ≤ x.e0 ∧ x.e0 ≤ 255) ∧ (0 ≤ x.e1 ∧ x.e1 ≤ 255) ∧ (0 ≤ x.e2 ∧ x.e2 ≤ 255)) := op_slice oA3 (by decide) (of_decide_eq_true (by kernel_rfl)) (by kernel_rfl) Tryz.underlying53
theorem oDraft : Opn Tryz.prog 55 kDraft (fun d => (∀ x ∈ d.fNodes, (0 ≤ x.e0 ∧ x.e0 ≤ 255) ∧ (0 ≤ x.e1 ∧ x.e1 ≤ 255)) ∧ ∀ x ∈ d.fEdges, (0 ≤ x.e0 ∧ x.e0 ≤ 255) ∧ (0 ≤ x.e1 ∧ x.e1 ≤ 255) ∧ (0 ≤ x.e2 ∧ x.e2 ≤ 255)) := op_struct Tryz.underlying55 (by kernel_rfl) (.cons oA2s rfl (.cons oA3s rfl .nil)) rfl (fun v => Draft.mk v.1 v.2.1) (fun _ => rfl) (fun _ h => ⟨h.1.2, h.2.1.2⟩)
end Go.Proofs.YthmdmchmmgmblaaGreat
