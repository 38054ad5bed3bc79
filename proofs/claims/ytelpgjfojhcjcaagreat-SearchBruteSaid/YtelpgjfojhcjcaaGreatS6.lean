/- The law SearchInstance about the pure functions. -/
import Derived.Test.YtelpgjfojhcjcaaGreatS5
namespace Go.Proofs.YtelpgjfojhcjcaaGreat
open Go Go.Abs

/-- The pattern with the types of the images. -/
structure InstP (p g : Graph) (m : Morphism) (r : Graph × Int) : Prop where
  ok : r.2 = 0
  edges : r.1.fEdges = p.fEdges
  len : r.1.fNodes.length = m.fNodes.length
  at' : ∀ j : Nat, j < m.fNodes.length → rd r.1.fNodes (j : Int) = rd g.fNodes (rd m.fNodes (j : Int))
theorem nodeM_in {t : Types} {p g : Graph} {m : Morphism} {i : Nat} (h : nodeM t p g m i = 0) : 0 ≤ rd m.fNodes (i : Int) ∧ rd m.fNodes (i : Int) < (g.fNodes.length : Int) := by
  unfold nodeM at h
  cases hb : decide (rd m.fNodes (i : Int) < 0) || decide (rd m.fNodes (i : Int) ≥ (g.fNodes.length : Int)) with
  | true => rw [hb] at h; cases h
  | false => simp only [Bool.or_eq_false_iff, decide_eq_false_iff_not] at hb; omega
theorem matchS_zero {t : Types} {p g : Graph} {m : Morphism} (h : matchS t p g m = 0) :
    m.fNodes.length = p.fNodes.length ∧ m.fEdges.length = p.fEdges.length ∧ (∀ i, i < m.fNodes.length → nodeM t p g m i = 0) ∧ (∀ i, i < m.fEdges.length → edgeM p g m i = 0) := by
  unfold matchS match2 at h
  cases hb : ((m.fNodes.length : Int) != (p.fNodes.length : Int)) || ((m.fEdges.length : Int) != (p.fEdges.length : Int)) with
  | true => rw [hb] at h; cases h
  | false =>
    rw [hb, cond_false] at h
    simp only [Bool.or_eq_false_iff, bne_eq_false_iff_eq] at hb
    cases hz : (scan (nodeM t p g m) 0 m.fNodes.length != 0) with
    | true => rw [hz, cond_true] at h; rw [h] at hz; cases hz
    | false =>
      rw [hz, cond_false] at h
      exact ⟨by omega, by omega, fun i hi => scan_zero (by simpa using hz) i (Nat.zero_le _) hi, fun i hi => scan_zero h i (Nat.zero_le _) hi⟩
theorem search_Instance_out {k : Nat} (hk : 200 ≤ k) {t : Types} {p g : Graph} (h : Small t p g) (m : Morphism) (h1 : m.fNodes.length ≤ 100) (h2 : m.fEdges.length ≤ 100) :
    Out (search_Instance k t p g m) (fun r => (givenS t p g ≠ 0 ∧ r = (Graph.mk [] [], givenS t p g)) ∨ (givenS t p g = 0 ∧ matchS t p g m ≠ 0 ∧ r = (Graph.mk [] [], matchS t p g m)) ∨ (givenS t p g = 0 ∧ matchS t p g m = 0 ∧ InstP p g m r)) := by
  unfold search_Instance
  rw [search_valid_eq hk h, Option.bind_some]
  by_cases hz : givenS t p g = 0
  · have f := givenS_fine hz
    have hb : (givenS t p g != 0) = false := by simp [hz]
    rw [hb, cond_false, search_shape_eq hk h.t f m h1 h2, Option.bind_some]
    by_cases hy : matchS t p g m = 0
    · have hc : (matchS t p g m != 0) = false := by simp [hy]
      obtain ⟨l1, l2, hn, he⟩ := matchS_zero hy
      rw [hc, cond_false, slices_Clone_Edge, if_pos (by have := f.gp.edges; simp [lim]; omega), Option.bind_some]
      refine (loop2_out (S := List Int) (P := fun _ _ r => InstP p g m r) (I := fun s i => s.length = i ∧ ∀ j : Nat, j < i → rd s (j : Int) = rd g.fNodes (rd m.fNodes (j : Int))) m.fNodes.length
        (fun s hs rec => ?_) (fun s i hi hs rec ih => ?_) k 0 [] (Nat.zero_le _) (by omega) ⟨rfl, fun j hj => by omega⟩).mono fun r hr => .inr (.inr ⟨hz, hy, hr⟩)
      · rw [search_Instance.b0, show decide ((m.fNodes.length : Int) < (m.fNodes.length : Int)) = false by simp, cond_false]
        exact ⟨_, rfl, rfl, rfl, hs.1, hs.2⟩
      · have hm := nodeM_in (hn i hi)
        have hsl := hs.1
        rw [search_Instance.b0, show decide ((i : Int) < (m.fNodes.length : Int)) = true by simp [hi], cond_true, gd (by omega), gd (by omega), gd (by simp [lim]; omega), gd (inR_nat (n := i) (by omega))]
        refine ih _ ⟨by simp [hsl], fun j hj => ?_⟩
        rcases Nat.lt_succ_iff_lt_or_eq.1 hj with hj | rfl
        · rw [rd_append_lt (by omega) (by omega)]; exact hs.2 j hj
        · have e : (j : Int) = (s.length : Int) := by omega
          rw [e, rd_append_eq]
    · have hc : (matchS t p g m != 0) = true := by simp [hy]
      rw [hc, cond_true]
      exact ⟨_, rfl, .inr (.inl ⟨hz, hy, rfl⟩)⟩
  · have hb : (givenS t p g != 0) = true := by simp [hz]
    rw [hb, cond_true]
    exact ⟨_, rfl, .inl ⟨hz, rfl⟩⟩
theorem SameInts_eq {k : Nat} {a b : List Int} (hk : a.length < k) (ha : a.length ≤ 1000000) (hl : a.length = b.length) (h : ∀ j : Nat, j < a.length → rd a (j : Int) = rd b (j : Int)) : ref05_SameInts k a b = some true := by
  have e : ((a.length : Int) != (b.length : Int)) = false := by simp [hl]
  unfold ref05_SameInts
  rw [e, cond_false]
  refine loop1_eq (fun _ => true) a.length (fun rec => ?_) (fun i hi rec ih => ?_) (Nat.zero_le _) (by omega)
  · rw [ref05_SameInts.b0, show decide ((a.length : Int) < (a.length : Int)) = false by simp, cond_false]
  · rw [ref05_SameInts.b0, show decide ((i : Int) < (a.length : Int)) = true by simp [hi], cond_true, gd (by omega), gd (by omega), h i hi, bne_self_eq_false, cond_false, gd (inR_nat (n := i) (by omega)), ih]
end Go.Proofs.YtelpgjfojhcjcaaGreat
