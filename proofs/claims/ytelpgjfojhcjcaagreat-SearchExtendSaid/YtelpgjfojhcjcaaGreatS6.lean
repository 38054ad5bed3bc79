/- The law SearchInstance about the pure functions. -/
import Derived.Test.YtelpgjfojhcjcaaGreatS5
namespace Go.Proofs.YtelpgjfojhcjcaaGreat
open Go Go.Abs

/-- The pattern with the types of the images. -/
structure InstP (p g : Graph) (m : Morphism) (r : Graph × Int) : Prop where
  ok : r.2 = 0
  edges : r.1.fEdges = p.fEdges
  len : r.1.fNodes.length = m.fNodes.length
  at' : ∀ j : Nat, j < m.fNodes.length → rd r.1.fNodes (j : Int) = rd g.fNodes (rd m.fNodes (j : Int))
theorem nodeM_in {t : Types} {p g : Graph} {m : Morphism} {i : Nat} (h : nodeM t p g m i = 0) : 0 ≤ rd m.fNodes (i : Int) ∧ rd m.fNodes (i : Int) < (g.fNodes.length : Int) := by
  unfold nodeM at h
  cases hb : decide (rd m.fNodes (i : Int) < 0) || decide (rd m.fNodes (i : Int) ≥ (g.fNodes.length : Int)) with
  | true => rw [hb] at h; cases h
  | false => simp only [Bool.or_eq_false_iff, decide_eq_false_iff_not] at hb; omega
theorem matchS_zero {t : Types} {p g : Graph} {m : Morphism} (h : matchS t p g m = 0) :
    m.fNodes.length = p.fNodes.length ∧ m.fEdges.length = p.fEdges.length ∧ (∀ i, i < m.fNodes.length → nodeM t p g m i = 0) ∧ (∀ i, i < m.fEdges.length → edgeM p g m i = 0) := by
  unfold matchS match2 at h
  cases hb : ((m.fNodes.length : Int) != (p.fNodes.length : Int)) || ((m.fEdges.length : Int) != (p.fEdges.length : Int)) with
  | true => rw [hb] at h; cases h
  | false =>
    rw [hb, cond_false] at h
    simp only [Bool.or_eq_false_iff, bne_eq_false_iff_eq] at hb
    cases hz : (scan (nodeM t p g m) 0 m.fNodes.length != 0) with
    | true => rw [hz, cond_true] at h; rw [h] at hz; cases hz
    | false =>
      rw [hz, cond_false] at h
      exact ⟨by omega, by omega, fun i hi => scan_zero (by simpa using hz) i (Nat.zero_le _) hi, fun i hi => scan_zero h i (Nat.zero_le _) hi⟩
theorem search_Instance_out {k : Nat} (hk : 200 ≤ k) {t : Types} {p g : Graph} (h : Small t p g) (m : Morphism) (h1 : m.fNodes.length ≤ 100) (h2 : m.fEdges.length ≤ 100) :
    Out (search_Instance k t p g m) (fun r => (givenS t p g ≠ 0 ∧ r = (Graph.mk [] [], givenS t p g)) ∨ (givenS t p g = 0 ∧ matchS t p g m ≠ 0 ∧ r = (Graph.mk [] [], matchS t p g m)) ∨ (givenS t p g = 0 ∧ matchS t p g m = 0 ∧ InstP p g m r)) := by
  unfold search_Instance
  rw [search_valid_eq hk h, Option.bind_some]
  by_cases hz : givenS t p g = 0
  · have f := givenS_fine hz
    have hb : (givenS t p g != 0) = false := by simp [hz]
    rw [hb, cond_false, search_shape_eq hk h.t f m h1 h2, Option.bind_some]
    by_cases hy : matchS t p g m = 0
    · have hc : (matchS t p g m != 0) = false := by simp [hy]
      obtain ⟨l1, l2, hn, he⟩ := matchS_zero hy
      rw [hc, cond_false, slices_Clone_Edge, if_pos (by have := f.gp.edges; simp [lim]; omega), Option.bind_some]
      refine (loop2_out (S := List Int) (P := fun _ _ r => InstP p g m r) (I := fun s i => s.length = i ∧ ∀ j : Nat, j < i → rd s (j : Int) = rd g.fNodes (rd m.fNodes (j : Int))) m.fNodes.length
        (fun s hs rec => ?_) (fun s i hi hs rec ih => ?_) k 0 [] (Nat.zero_le _) (by omega) ⟨rfl, fun j hj => by omega⟩).mono fun r hr => .inr (.inr ⟨hz, hy, hr⟩)
      · rw [search_Instance.b0, show decide ((m.fNodes.length : Int) < (m.fNodes.length : Int)) = false by simp, cond_false]
        exact ⟨_, rfl, rfl, rfl, hs.1, hs.2⟩
      · have hm := nodeM_in (hn i hi)
        have hsl := hs.1
        rw [search_Instance.b0, show decide ((i : Int) < (m.fNodes.length : Int)) = true by simp [hi], cond_true, gd (by omega), gd (by omega), gd (by simp [lim]; omega), gd (inR_nat (n := i) (by omega))]
        refine ih _ ⟨by simp [hsl], fun j hj => ?_⟩
        rcases Nat.lt_succ_iff_lt_or_eq.1 hj with hj | rfl
        · rw [rd_append_lt (by omega) (by omega)]; exact hs.2 j hj
        · have e : (j : Int) = (s.length : Int) := by omega
          rw [e, rd_append_eq]
    · have hc : (matchS t p g m != 0) = true := by simp [hy]
      rw [hc, cond_true]
      exact ⟨_, rfl, .inr (.inl ⟨hz, hy, rfl⟩)⟩
  · have hb : (givenS t p g != 0) = true := by simp [hz]
    rw [hb, cond_true]
    exact ⟨_, rfl, .inl ⟨hz, rfl⟩⟩
theorem ref17_Instance_out {k : Nat} (hk : 200 ≤ k) {t : Types} {p g : Graph} (h : Small t p g) (m : Morphism) (h1 : m.fNodes.length ≤ 100) (h2 : m.fEdges.length ≤ 100) :
    Out (ref17_Instance k t p g m) (fun r => (givenS t p g ≠ 0 ∧ r = (Graph.mk [] [], givenS t p g)) ∨ (givenS t p g = 0 ∧ matchS t p g m ≠ 0 ∧ r = (Graph.mk [] [], matchS t p g m)) ∨ (givenS t p g = 0 ∧ matchS t p g m = 0 ∧ InstP p g m r)) := by
  unfold ref17_Instance ref17_Check
  rw [ref17_given_eq hk h, Option.bind_some]
  by_cases hz : givenS t p g = 0
  · have f := givenS_fine hz
    have hb : (givenS t p g != 0) = false := by simp [hz]
    rw [hb, cond_false, ref17_match_eq hk f m h1 h2, Option.bind_some, Option.bind_some]
    by_cases hy : matchS t p g m = 0
    · have hc : (matchS t p g m != 0) = false := by simp [hy]
      obtain ⟨l1, l2, hn, he⟩ := matchS_zero hy
      rw [hc, cond_false, ref05_Copied, if_pos (by have := f.gp.nodes; simp [lim]; omega), if_pos (by have := f.gp.edges; simp [lim]; omega), Option.bind_some]
      refine (loop2_out (S := List Int) (P := fun _ _ r => InstP p g m r) (I := fun s i => s.length = m.fNodes.length ∧ ∀ j : Nat, j < i → rd s (j : Int) = rd g.fNodes (rd m.fNodes (j : Int))) m.fNodes.length
        (fun s hs rec => ?_) (fun s i hi hs rec ih => ?_) k 0 p.fNodes (Nat.zero_le _) (by omega) ⟨l1.symm, fun j hj => by omega⟩).mono fun r hr => .inr (.inr ⟨hz, hy, hr⟩)
      · rw [ref17_Instance.b0, hs.1, show decide ((m.fNodes.length : Int) < (m.fNodes.length : Int)) = false by simp, cond_false]
        exact ⟨_, rfl, rfl, rfl, hs.1, hs.2⟩
      · have hm := nodeM_in (hn i hi)
        have hsl := hs.1
        rw [ref17_Instance.b0, hs.1, show decide ((i : Int) < (m.fNodes.length : Int)) = true by simp [hi], cond_true, gd (by omega), gd (by omega), gd (by omega), gd (inR_nat (n := i) (by omega))]
        refine ih _ ⟨by simp [hsl], fun j hj => ?_⟩
        rw [rd_set (by omega) (by omega) (by omega)]
        by_cases e : (j : Int) = (i : Int)
        · rw [if_pos e, e]
        · rw [if_neg e]; exact hs.2 j (by omega)
    · have hc : (matchS t p g m != 0) = true := by simp [hy]
      rw [hc, cond_true]
      exact ⟨_, rfl, .inr (.inl ⟨hz, hy, rfl⟩)⟩
  · have hb : (givenS t p g != 0) = true := by simp [hz]
    rw [hb, cond_true, Option.bind_some, hb, cond_true]
    exact ⟨_, rfl, .inl ⟨hz, rfl⟩⟩

theorem SameInts_eq {k : Nat} {a b : List Int} (hk : a.length < k) (ha : a.length ≤ 1000000) (hl : a.length = b.length) (h : ∀ j : Nat, j < a.length → rd a (j : Int) = rd b (j : Int)) : ref05_SameInts k a b = some true := by
  have e : ((a.length : Int) != (b.length : Int)) = false := by simp [hl]
  unfold ref05_SameInts
  rw [e, cond_false]
  refine loop1_eq (fun _ => true) a.length (fun rec => ?_) (fun i hi rec ih => ?_) (Nat.zero_le _) (by omega)
  · rw [ref05_SameInts.b0, show decide ((a.length : Int) < (a.length : Int)) = false by simp, cond_false]
  · rw [ref05_SameInts.b0, show decide ((i : Int) < (a.length : Int)) = true by simp [hi], cond_true, gd (by omega), gd (by omega), h i hi, bne_self_eq_false, cond_false, gd (inR_nat (n := i) (by omega)), ih]
theorem ref05_Same_eq {k : Nat} {a b : Graph} (hk : 200 ≤ k) (h1 : a.fNodes.length ≤ 100) (h2 : a.fEdges.length ≤ 100) (hl : a.fNodes.length = b.fNodes.length) (h : ∀ j : Nat, j < a.fNodes.length → rd a.fNodes (j : Int) = rd b.fNodes (j : Int)) (he : a.fEdges = b.fEdges) : ref05_Same k a b = some true := by
  unfold ref05_Same
  simp only [jn, SameInts_eq (k := k) (by omega) (by omega) hl h, Option.bind_some, Bool.not_true, cond_false]
  rw [he, bne_self_eq_false, cond_false]
  rw [he] at h2
  refine loop1_eq (fun _ => true) b.fEdges.length (fun rec => ?_) (fun i hi rec ih => ?_) (Nat.zero_le _) (by omega)
  · rw [ref05_Same.b0, he, show decide ((b.fEdges.length : Int) < (b.fEdges.length : Int)) = false by simp, cond_false]
  · rw [ref05_Same.b0, he, show decide ((i : Int) < (b.fEdges.length : Int)) = true by simp [hi], cond_true, gd (by omega), gd (by omega), beq_self_eq_true, Bool.not_true, cond_false, gd (inR_nat (n := i) (by omega)), ih]
theorem ref06_Valid_eq {k : Nat} (hk : 200 ≤ k) {t : Types} {p g : Graph} (f : Fine t p g) {m : Morphism} (hy : matchS t p g m = 0) (h1 : m.fNodes.length ≤ 100) (h2 : m.fEdges.length ≤ 100) {r : Graph × Int} (hr : InstP p g m r) : ref06_Valid k r.1 g m = some 0 := by
  obtain ⟨l1, l2, hn, he⟩ := matchS_zero hy
  have w := valid_wf f.ok
  have b1 := f.gp.nodes; have b2 := f.gp.edges; have b3 := f.gg.nodes; have b4 := f.gg.edges
  have e1 := hr.len; have e2 := hr.edges
  have hgood : GoodG r.1 := ⟨by omega, by rw [e2]; omega, fun j hj => by
      rw [hr.at' j (by omega)]
      have hm := nodeM_in (hn j (by omega))
      have := f.gg.kind (rd m.fNodes (j : Int)).toNat (by omega)
      rwa [Int.toNat_of_nonneg (by omega)] at this,
    fun j hj => by
      rw [e2] at hj ⊢
      have := f.gp.right j hj
      rw [e1, l1]; exact this⟩
  have he1 : graphErr r.1 = 0 := good_graphErr hgood fun j hj => by
    rw [e2] at hj ⊢
    have := typedB_edge f.tp hj; omega
  have he2 : graphErr g = 0 := good_graphErr f.gg fun j hj => by
    have := typedB_edge f.tg hj; omega
  unfold ref06_Valid
  rw [ref05_Valid_eq hk ⟨by omega, by rw [e2]; omega⟩, Option.bind_some, he1, bne_self_eq_false, cond_false, ref05_Valid_eq hk ⟨by omega, by omega⟩, Option.bind_some, he2, bne_self_eq_false, cond_false]
  unfold jn; dsimp only
  rw [e2, e1, show ((m.fNodes.length : Int) != (m.fNodes.length : Int)) = false by simp, cond_false, show ((m.fEdges.length : Int) != (p.fEdges.length : Int)) = false by simp; omega, cond_false]
  refine loop1_eq (fun _ => (0 : Int)) m.fNodes.length (fun rec => ?_) (fun i hi rec ih => ?_) (Nat.zero_le _) (by omega)
  · rw [ref06_Valid.b0, e1, show decide ((m.fNodes.length : Int) < (m.fNodes.length : Int)) = false by simp, cond_false]
    refine loop1_eq (fun _ => (0 : Int)) m.fEdges.length (fun rec => ?_) (fun i hi rec ih => ?_) (Nat.zero_le _) (by omega)
    · rw [ref06_Valid.b1, e2, show decide ((m.fEdges.length : Int) < (p.fEdges.length : Int)) = false by simp; omega, cond_false]
    · have hx := he i hi
      have hr' := f.gp.right i (by omega)
      rw [ref06_Valid.b1, e2, show decide ((i : Int) < (p.fEdges.length : Int)) = true by simp; omega, cond_true]
      unfold edgeM at hx
      unfold jn; dsimp only
      cases c1 : decide (rd m.fEdges (i : Int) < 0) || decide (rd m.fEdges (i : Int) ≥ (g.fEdges.length : Int)) with
      | true => rw [c1] at hx; cases hx
      | false =>
        rw [c1, cond_false] at hx
        simp only [Bool.or_eq_false_iff] at c1
        have c1' := c1
        simp only [decide_eq_false_iff_not] at c1'
        cases c2 : ((rd p.fEdges (i : Int)).fType != (rd g.fEdges (rd m.fEdges (i : Int))).fType) with
        | true => rw [c2] at hx; cases hx
        | false =>
          rw [c2, cond_false] at hx
          cases c3 : (rd m.fNodes (rd p.fEdges (i : Int)).fFrom != (rd g.fEdges (rd m.fEdges (i : Int))).fFrom) with
          | true => rw [c3] at hx; cases hx
          | false =>
            cases c4 : (rd m.fNodes (rd p.fEdges (i : Int)).fTo != (rd g.fEdges (rd m.fEdges (i : Int))).fTo) with
            | true => rw [c3, c4] at hx; cases hx
            | false =>
              rw [gd (by omega), c1.1, cond_false, gd (by omega), c1.2, cond_false, gd (by omega), gd (by omega), gd (by omega), cond_false, gd (by omega), cond_false, gd (by omega), cond_false, gd (inR_nat (n := i) (by omega)), ih]
  · have hm := nodeM_in (hn i hi)
    rw [ref06_Valid.b0, e1, show decide ((i : Int) < (m.fNodes.length : Int)) = true by simp [hi], cond_true]
    unfold jn; dsimp only
    rw [gd (by omega), decide_eq_false (show ¬ rd m.fNodes (i : Int) < 0 by omega), cond_false, gd (by omega), decide_eq_false (show ¬ rd m.fNodes (i : Int) ≥ (g.fNodes.length : Int) by omega), cond_false, gd (by omega), gd (by omega), gd (by omega),
      hr.at' i hi, bne_self_eq_false, cond_false, gd (inR_nat (n := i) (by omega)), ih]

theorem law_instance {k : Nat} (hk : 200 ≤ k) (aw : law17_awake k = some true) (c : Case) (m : Morphism) (hA : ∀ n ∈ c.fT.fNodes, n.fAttrs.length ≤ 140737488351232) : law17_SearchInstance k c m = some true := by
  unfold law17_SearchInstance jn; dsimp only
  rw [aw, Option.bind_some, Bool.not_true, cond_false]
  obtain ⟨b, e, hb⟩ := ref17_Light_out hk (p := c.fP) (g := c.fG) hA
  rw [e, Option.bind_some]
  cases b with
  | false => rfl
  | true =>
    have hl := (hb rfl).small
    rw [Bool.not_true, cond_false]
    cases h1 : decide ((m.fNodes.length : Int) > 100) with
    | true => rfl
    | false =>
      cases h2 : decide ((m.fEdges.length : Int) > 100) with
      | true => rfl
      | false =>
        rw [cond_false, cond_false]
        simp at h1 h2
        obtain ⟨r, e1, hr⟩ := search_Instance_out hk hl m (by omega) (by omega)
        obtain ⟨s, e2, hs⟩ := ref17_Instance_out hk hl m (by omega) (by omega)
        rw [e1, Option.bind_some, e2, Option.bind_some]
        have hsame : ref05_Same k (Graph.mk [] []) (Graph.mk [] []) = some true := ref05_Same_eq hk (by simp) (by simp) rfl (fun j hj => rfl) rfl
        rcases hr with ⟨z, rfl⟩ | ⟨z, y, rfl⟩ | ⟨z, y, hr⟩ <;> rcases hs with ⟨z', rfl⟩ | ⟨z', y', rfl⟩ | ⟨z', y', hs⟩ <;> first | exact absurd z z' | exact absurd z' z | exact absurd y y' | exact absurd y' y | skip
        · dsimp only
          have : (givenS c.fT c.fP c.fG != 0) = true := by simp [z]
          rw [beq_self_eq_true, cond_true, hsame, Option.bind_some, cond_true, this, cond_true]
        · dsimp only
          have : (matchS c.fT c.fP c.fG m != 0) = true := by simp [y]
          rw [beq_self_eq_true, cond_true, hsame, Option.bind_some, cond_true, this, cond_true]
        · have f := givenS_fine z
          have b2 := f.gp.edges
          rw [hr.ok, hs.ok, beq_self_eq_true, cond_true, ref05_Same_eq hk (by rw [hr.len]; omega) (by rw [hr.edges]; omega) (by rw [hr.len, hs.len]) (fun j hj => by rw [hr.len] at hj; rw [hr.at' j hj, hs.at' j hj]) (by rw [hr.edges, hs.edges]), Option.bind_some, cond_true,
            bne_self_eq_false, cond_false, ref06_Valid_eq hk f y (by omega) (by omega) hr, Option.bind_some, beq_self_eq_true]
end Go.Proofs.YtelpgjfojhcjcaaGreat
