/- slices.Sort: a call that turns the call's own slice. (158: its number.) -/
import Derived.Test.YthmdmchmmgmblaaGreatCnSh
import Derived.Test.YthmdmchmmgmblaaGreatCnD
import Derived.Sort.OwnSortedInts
namespace Go.Proofs.YthmdmchmmgmblaaGreat
open Go.RowKit Go.Shelf Go.Sort
open Go.Abs in
theorem all2_ints3 {w : World} {bad : Bad} : ∀ {xs : List Int} {cs : List Value}, All2 w bad (kInt.cs xs) cs → cs = xs.map (Value.int .i64)
  | [], [], _ => rfl
  | x :: xs, c :: cs, h => by
    have h' : (EqA (.int .i64 x)).P w bad c ∧ All2 w bad (kInt.cs xs) cs := h
    rw [List.map_cons, all2_ints3 h'.2, show c = .int .i64 x from h'.1]
  | [], _ :: _, h => h.elim
  | _ :: _, [], h => h.elim
open Go.Abs in
theorem ints_all2 {w : World} {bad : Bad} : ∀ (xs : List Int), All2 w bad (kInt.cs xs) (xs.map (Value.int .i64))
  | [] => trivial
  | _ :: xs => ⟨rfl, ints_all2 xs⟩
open Go.Abs in
theorem slices_Sort_int.con (k : Nat) (w0 : Value) (a0 : (List Int)) (r : (List Int)) (h : slices_Sort_int k a0 = some r) : Con Tryz.prog 158 [SlE 3 w0 kInt a0] [HdA w0] (fun O' A => O' = [SlE 3 w0 kInt r] ∧ A = TupA []) := fun w fg vs s k2 => by
  unfold slices_Sort_int at h
  obtain ⟨hl, h⟩ := ite_n h
  cases h
  match vs, k2 with
  | [v], k2 =>
    obtain ⟨⟨rfl, h1⟩, _⟩ := k2
    have hE := s.holds _ (List.mem_singleton.2 rfl)
    have hfin : ∀ w', (SlE 3 v kInt (a0.mergeSort fun x y => decide (x ≤ y))).P w' (badOf [SlE 3 v kInt a0] fg) → w.grownBy w' (ownB v) → 
        ∃ v' O' A, Ending.returned (.tuple #[]) = .returned v' ∧ (O' = [SlE 3 v kInt (a0.mergeSort fun x y => decide (x ≤ y))] ∧ A = TupA []) ∧ Go.Abs.Sat w' fg O' ∧ Go.Abs.Frame w [SlE 3 v kInt a0] w' O' ∧ A.P w' (badOf O' fg) v' := fun w' hp hg => by
      obtain ⟨g1, g2, g3, g4, g5⟩ := hg
      have hk : keys [SlE 3 v kInt (a0.mergeSort fun x y => decide (x ≤ y))] = keys [SlE 3 v kInt a0] := rfl
      refine ⟨_, _, _, rfl, ⟨rfl, rfl⟩, ⟨by rw [hk]; exact s.nodup, by rw [hk]; exact s.out, fun b hb => Nat.lt_of_lt_of_le (s.lt b hb) g4, fun e he => ?_⟩, ⟨g1, g2, g3, g4, fun b hb hn => ⟨g5 b hb fun e => hn ?_, hn⟩⟩, ⟨[], rfl, trivial⟩⟩
      · have e2 := List.mem_singleton.1 he
        subst e2
        exact hp
      · simp [keys, SlE, e]
    rcases hE with ⟨rfl, a, rfl⟩ | ⟨g, hg, cs, hk, ho⟩
    · refine (Tryz.slices_Sort_int_none a 0 w).mono ?_
      rintro e w' ⟨rfl, rfl⟩
      refine hfin _ (.inl ⟨by simp, _, rfl⟩) ⟨rfl, rfl, rfl, Nat.le_refl _, fun _ _ _ => rfl⟩
    · have ec := all2_ints3 hk
      subst ec
      rcases ho.2 with ⟨rfl, hz⟩ | ⟨gb, cap, cur, rfl, hbase, hgb, r1, r2, r3, r4⟩
      · cases hg
      · have hgg : ownB (.slice (some ⟨gb, 0, none⟩) a0.length cap) = some gb := by
          cases cap with
          | zero => cases hg
          | succ c => rfl
        have hH : Holds (Value.int .i64) w gb 0 a0.toArray := holds_of_blockI hgb (by have h4 := r4; rw [show kInt.n = 1 from rfl, Nat.mul_one] at h4; exact h4)
        have hgl : gb < w.heap.size := (Array.getElem?_eq_some_iff.1 hgb).1
        refine (Tryz.slices_Sort_int gb 0 cap a0 w hH hgl (by omega)).mono ?_
        rintro e w' ⟨rfl, nn, os, rfl⟩
        refine hfin _ (.inr ⟨gb, hgg, (a0.mergeSort fun x y => decide (x ≤ y)).map (Value.int .i64), ints_all2 _, ?_⟩) ?_
        · have := ownsRow_sortedI (base := 0) (n := nn) (os := os) (ss := a0) (ts := a0.mergeSort fun x y => decide (x ≤ y)) (by simp) (Nat.zero_le _) hgb r1 r2 (by have h3 := r3; rw [show kInt.n = 1 from rfl] at h3; exact h3)
          rw [show kInt.n = 1 from rfl]
          simpa using this
        · rw [hgg]; exact grownBy_sortedI _
end Go.Proofs.YthmdmchmmgmblaaGreat
