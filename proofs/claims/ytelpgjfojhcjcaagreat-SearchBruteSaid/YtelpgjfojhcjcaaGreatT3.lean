/- The law SearchBrute about the pure functions. -/
import Derived.Test.YtelpgjfojhcjcaaGreatT2
namespace Go.Proofs.YtelpgjfojhcjcaaGreat
open Go Go.Abs

theorem loop3_out {S T R : Type} {b : (S → T → Int → Option R) → S → T → Int → Option R} {P : R → Prop} {I : S → T → Nat → Prop} (n : Nat)
    (hend : ∀ s u, I s u n → ∀ rec, Out (b rec s u (n : Int)) P)
    (hstep : ∀ s u i, i < n → I s u i → ∀ rec : S → T → Int → Option R, (∀ s' u', I s' u' (i + 1) → Out (rec s' u' ((i : Int) + 1)) P) → Out (b rec s u (i : Int)) P) :
    ∀ (k i : Nat) (s : S) (u : T), i ≤ n → n < k + i → I s u i → Out (loop3 k b s u (i : Int)) P
  | 0, i, s, u, h, hk, _ => by omega
  | k + 1, i, s, u, h, hk, hi => by
    rcases Nat.lt_or_ge i n with hl | hl
    · refine hstep s u i hl hi _ fun s' u' hI => ?_
      have := loop3_out n hend hstep k (i + 1) s' u' hl (by omega) hI
      simpa using this
    · have : i = n := by omega
      subst this
      exact hend s u hi _

theorem ext_rd {a b : List Int} (hl : a.length = b.length) (h : ∀ j : Nat, j < a.length → rd a (j : Int) = rd b (j : Int)) : a = b := by
  apply List.ext_getElem hl
  intro i h1 h2
  have := h i h1
  simpa [rd, List.getD, List.getElem?_eq_getElem h1, List.getElem?_eq_getElem h2] using this
theorem SameIntsD_out {k : Nat} {a b : List Int} (hk : a.length < k) (ha : a.length ≤ 1000000) : Out (ref02_SameInts k a b) (fun r => r = decide (a = b)) := by
  unfold ref02_SameInts
  cases hl : ((a.length : Int) != (b.length : Int)) with
  | true => exact ⟨false, rfl, (decide_eq_false (fun h => by subst h; simp at hl)).symm⟩
  | false =>
    have hl' : (a.length : Int) = (b.length : Int) := by simpa using hl
    rw [cond_false]
    refine (loop1_out (I := fun i => ∀ j : Nat, j < i → rd a (j : Int) = rd b (j : Int)) (P := fun _ r => r = decide (a = b)) a.length (fun hI rec => ?_) (fun i hi hI rec ih => ?_) k 0 (Nat.zero_le _) (by omega) (fun j hj => by omega))
    · rw [ref02_SameInts.b0, decide_eq_false (show ¬ (a.length : Int) < (a.length : Int) by omega), cond_false]
      exact ⟨true, rfl, (decide_eq_true (ext_rd (by omega) hI)).symm⟩
    · rw [ref02_SameInts.b0, decide_eq_true (show (i : Int) < (a.length : Int) by omega), cond_true, gd (by omega), gd (by omega), gd (inR_nat (n := i) (by omega))]
      cases hx : (rd a (i : Int) != rd b (i : Int)) with
      | true => exact ⟨false, rfl, (decide_eq_false (fun h => by subst h; simp at hx)).symm⟩
      | false =>
        refine ih fun j hj => ?_
        rcases Nat.lt_succ_iff_lt_or_eq.1 hj with hj | rfl
        · exact hI j hj
        · simpa using hx
theorem SameB_out {k : Nat} (hk : 200 ≤ k) {a b : Morphism} (h1 : a.fNodes.length ≤ 100) (h2 : a.fEdges.length ≤ 100) : Out (law17_SearchBrute_1 k a b) (fun r => r = decide (a = b)) := by
  unfold law17_SearchBrute_1 ref06_Same jn; dsimp only
  obtain ⟨r1, e1, g1⟩ := SameIntsD_out (k := k) (a := a.fNodes) (b := b.fNodes) (by omega) (by omega)
  obtain ⟨r2, e2, g2⟩ := SameIntsD_out (k := k) (a := a.fEdges) (b := b.fEdges) (by omega) (by omega)
  rw [e1, Option.bind_some, e2]
  subst g1; subst g2
  by_cases h : a.fNodes = b.fNodes
  · rw [decide_eq_true h]
    refine ⟨_, rfl, ?_⟩
    show decide (a.fEdges = b.fEdges) = decide (a = b)
    rw [decide_eq_decide]
    exact ⟨fun h3 => by cases a; cases b; simp_all, fun h3 => by rw [h3]⟩
  · rw [decide_eq_false h]
    exact ⟨false, rfl, (decide_eq_false (fun h3 => h (by rw [h3]))).symm⟩
theorem containsB_eq {k : Nat} (hk : 6000 ≤ k) {b : List Morphism} (m : Morphism) (hb : b.length ≤ 5000) (hs : ∀ x ∈ b, x.fNodes.length ≤ 100 ∧ x.fEdges.length ≤ 100) : slices_ContainsFunc_Morphism k b (fun x => law17_SearchBrute_1 k x m) = some (decide (m ∈ b)) := by
  rw [ContainsFunc_Morphism (k := k) b (fun x => law17_SearchBrute_1 k x m) (fun j => decide (rd b (j : Int) = m)) (by omega) (by omega) (fun j hj => by
    have := hs _ (rd_mem (l := b) (x := (j : Int)) (by omega) (by omega))
    obtain ⟨r, e, h⟩ := SameB_out (k := k) (b := m) (by omega) this.1 this.2
    rw [e, h])]
  congr 1
  rw [Bool.eq_iff_iff, anyN_iff, decide_eq_true_eq]
  constructor
  · rintro ⟨j, _, hj, h⟩
    rw [decide_eq_true_eq] at h
    rw [← h]; exact rd_mem (by omega) (by omega)
  · intro h
    obtain ⟨i, hi, e⟩ := List.mem_iff_getElem.1 h
    exact ⟨i, Nat.zero_le _, hi, by rw [decide_eq_true_eq]; simp [rd, List.getD, List.getElem?_eq_getElem hi, e]⟩

/-! ### Whatever is a match is found -/
theorem take_rd {l : List Int} {i : Nat} (hi : i < l.length) : l.take (i + 1) = l.take i ++ [rd l (i : Int)] := by
  have : rd l (i : Int) = l[i] := by simp [rd, List.getD, List.getElem?_eq_getElem hi]
  rw [this, List.take_succ_eq_append_getElem hi]
theorem not_mem_take {l : List Int} (h : l.Nodup) {i : Nat} (hi : i < l.length) : rd l (i : Int) ∉ l.take i := by
  intro hm
  obtain ⟨j, hj, e⟩ := List.mem_iff_getElem.1 hm
  have hj' : j < i := by rw [List.length_take] at hj; omega
  rw [List.getElem_take] at e
  rw [List.Nodup, List.pairwise_iff_getElem] at h
  have := h j i (by omega) hi hj'
  have e2 : rd l (i : Int) = l[i] := by simp [rd, List.getD, List.getElem?_eq_getElem hi]
  rw [e2] at e
  exact this e
theorem edgesL_mem {q : Pb} (hpe : ∀ x, q.pe x = -1) {l e : List Int} (he : EdgesOk q l e) : ∀ d, d ≤ e.length → (⟨l, e⟩ : Morphism) ∈ edgesL q l d (e.take (e.length - d))
  | 0, _ => by simp [edgesL]
  | d + 1, hd => by
    have hi : e.length - (d + 1) < e.length := by omega
    have hf := he.fit (e.length - (d + 1)) hi
    have hlen : (e.take (e.length - (d + 1))).length = e.length - (d + 1) := by simp
    simp only [edgesL, List.mem_flatMap, List.mem_range]
    refine ⟨(rd e ((e.length - (d + 1) : Nat) : Int)).toNat, by omega, ?_⟩
    rw [Int.toNat_of_nonneg hf.1]
    have ok : okE q l (e.take (e.length - (d + 1))) (rd e ((e.length - (d + 1) : Nat) : Int)) = true := by
      unfold okE fitE
      rw [hlen, hpe, hf.2.2]
      cases hj : q.inj with
      | false => rfl
      | true => simp [not_mem_take (he.inj hj) hi]
    rw [if_pos ok, ← take_rd hi, show e.length - (d + 1) + 1 = e.length - d by omega]
    exact edgesL_mem hpe he d (by omega)
theorem nodesL_mem {q : Pb} (hpn : ∀ x, q.pn x = -1) (hpe : ∀ x, q.pe x = -1) {l e : List Int} (hl : NodesOk q l) (he : EdgesOk q l e) (hel : e.length = q.p.fEdges.length) : ∀ d, d ≤ l.length → (⟨l, e⟩ : Morphism) ∈ nodesL q d (l.take (l.length - d))
  | 0, _ => by
    simp only [nodesL, Nat.sub_zero, List.take_length]
    have := edgesL_mem hpe he e.length (Nat.le_refl _)
    rw [Nat.sub_self, List.take_zero, hel] at this
    exact this
  | d + 1, hd => by
    have hi : l.length - (d + 1) < l.length := by omega
    have hf := hl.fit (l.length - (d + 1)) hi
    have hlen : (l.take (l.length - (d + 1))).length = l.length - (d + 1) := by simp
    simp only [nodesL, List.mem_flatMap, List.mem_range]
    refine ⟨(rd l ((l.length - (d + 1) : Nat) : Int)).toNat, by omega, ?_⟩
    rw [Int.toNat_of_nonneg hf.1]
    have ok : okN q (l.take (l.length - (d + 1))) (rd l ((l.length - (d + 1) : Nat) : Int)) = true := by
      unfold okN
      rw [hlen, hpn, hf.2.2]
      cases hj : q.inj with
      | false => rfl
      | true => simp [not_mem_take (hl.inj hj) hi]
    rw [if_pos ok, ← take_rd hi, show l.length - (d + 1) + 1 = l.length - d by omega]
    exact nodesL_mem hpn hpe hl he hel d (by omega)
theorem check_full {t : Types} {p g : Graph} {inj : Bool} {m : Morphism} (h : checkS t p g m inj = 0) : m ∈ fullL t p g inj := by
  unfold checkS at h
  cases hz : (givenS t p g != 0) with
  | true => rw [hz, cond_true] at h; rw [h] at hz; cases hz
  | false =>
    rw [hz, cond_false] at h
    unfold matchI at h
    cases hy : (matchS t p g m != 0) with
    | true => rw [hy, cond_true] at h; rw [h] at hy; cases hy
    | false =>
      rw [hy, cond_false] at h
      obtain ⟨l1, l2, hn, he⟩ := matchS_zero (by simpa using hy)
      have hinj : inj = true → m.fNodes.Nodup ∧ m.fEdges.Nodup := fun hi => by
        unfold injS at h
        rw [hi] at h
        by_cases a : m.fNodes.Nodup
        · by_cases b : m.fEdges.Nodup
          · exact ⟨a, b⟩
          · rw [decide_eq_true a, decide_eq_false b] at h; cases h
        · rw [decide_eq_false a] at h; cases h
      have hN : NodesOk (pbA t p g inj) m.fNodes := ⟨(fun i hi => by
        have h1 := hn i hi
        have h2 := nodeM_in h1
        unfold nodeM at h1
        rw [decide_eq_false (show ¬ rd m.fNodes (i : Int) < 0 by omega), decide_eq_false (show ¬ rd m.fNodes (i : Int) ≥ (g.fNodes.length : Int) by omega), Bool.or_false, cond_false] at h1
        refine ⟨h2.1, h2.2, ?_⟩
        cases hb : isB t.fNodes (rd g.fNodes (rd m.fNodes (i : Int))) (rd p.fNodes (i : Int)) with
        | true => exact hb
        | false => rw [hb] at h1; cases h1), fun hi => (hinj hi).1⟩
      have hE : EdgesOk (pbA t p g inj) m.fNodes m.fEdges := ⟨(fun i hi => by
        have h1 := he i hi
        unfold edgeM at h1
        cases c1 : decide (rd m.fEdges (i : Int) < 0) || decide (rd m.fEdges (i : Int) ≥ (g.fEdges.length : Int)) with
        | true => rw [c1] at h1; cases h1
        | false =>
          rw [c1, cond_false] at h1
          simp only [Bool.or_eq_false_iff, decide_eq_false_iff_not] at c1
          refine ⟨by omega, show rd m.fEdges (i : Int) < (g.fEdges.length : Int) by omega, ?_⟩
          show eqE (pbA t p g inj) m.fNodes (i : Int) (rd m.fEdges (i : Int)) = true
          unfold eqE bne at *
          show (((rd p.fEdges (i : Int)).fType == (rd g.fEdges (rd m.fEdges (i : Int))).fType) && (((rd g.fEdges (rd m.fEdges (i : Int))).fFrom == rd m.fNodes (rd p.fEdges (i : Int)).fFrom) && ((rd g.fEdges (rd m.fEdges (i : Int))).fTo == rd m.fNodes (rd p.fEdges (i : Int)).fTo))) = true
          rw [Bool.beq_comm (a := (rd g.fEdges (rd m.fEdges (i : Int))).fFrom), Bool.beq_comm (a := (rd g.fEdges (rd m.fEdges (i : Int))).fTo)]
          cases c2 : ((rd p.fEdges (i : Int)).fType == (rd g.fEdges (rd m.fEdges (i : Int))).fType) with
          | false => rw [c2] at h1; cases h1
          | true =>
            cases c3 : (rd m.fNodes (rd p.fEdges (i : Int)).fFrom == (rd g.fEdges (rd m.fEdges (i : Int))).fFrom) with
            | false => rw [c2, c3] at h1; cases h1
            | true =>
              cases c4 : (rd m.fNodes (rd p.fEdges (i : Int)).fTo == (rd g.fEdges (rd m.fEdges (i : Int))).fTo) with
              | false => rw [c2, c3, c4] at h1; cases h1
              | true => rfl), fun hi => (hinj hi).2⟩
      have := nodesL_mem (q := pbA t p g inj) (fun _ => rfl) (fun _ => rfl) hN hE l2 m.fNodes.length (Nat.le_refl _)
      rw [Nat.sub_self, List.take_zero, l1] at this
      exact this

theorem law_brute {k : Nat} (hk : 6000 ≤ k) (aw : law17_awake k = some true) (d : Drafts) (images : List Int) (inj : Bool) (hd : DraftsOk d) : law17_SearchBrute k d images inj = some true := by
  unfold law17_SearchBrute
  obtain ⟨r, e, hr⟩ := parts_out (k := k) (by omega) hd
  rw [e, Option.bind_some, jn]; dsimp only
  rw [aw, Option.bind_some, Bool.not_true, cond_false]
  cases hok : r.2.2.2 with
  | false => rfl
  | true =>
    obtain ⟨ht, hp, hg⟩ := hr hok
    obtain ⟨t, p, g, ok⟩ := r
    dsimp only at ht hp hg ⊢
    rw [Bool.not_true, cond_false]
    cases h0 : ((g.fNodes.length : Int) == 0) with
    | true => rfl
    | false =>
      have h0' : (g.fNodes.length : Int) ≠ 0 := by simpa using h0
      rw [cond_false]
      by_cases h1 : (images.length : Int) > 10
      · rw [decide_eq_true h1]; rfl
      · have p1 := hp.n; have p2 := hp.e; have g1 := hg.n; have g2 := hg.e
        rw [decide_eq_false h1, cond_false]
        unfold jn; dsimp only
        rw [gd (by simp [lim]; omega), gd (by simp [lim]; omega)]
        refine Out.eq (loop3_out (S := List Int) (T := List Int) (P := fun r => r = true) (I := fun s u _ => s.length = p.fNodes.length ∧ u.length = p.fEdges.length) images.length (fun s u hs rec => ?_) (fun s u i hi hs rec ih => ?_) k 0 _ _ (Nat.zero_le _) (by omega) ⟨by simp, by simp⟩)
        · rw [law17_SearchBrute.b0]; dsimp only
          have hz := made_given ht (show 3 ≤ 40 by omega) (show 3 ≤ 80 by omega) (show 8 ≤ 40 by omega) (show 10 ≤ 80 by omega) hp hg
          rw [decide_eq_false (show ¬ (images.length : Int) < (images.length : Int) by omega), cond_false, All_eq (by omega) (made_few ht) ⟨by omega, by omega⟩ ⟨by omega, by omega⟩ hz, Option.bind_some]
          have hsz : ∀ x ∈ fullL t p g inj, x.fNodes.length ≤ 100 ∧ x.fEdges.length ≤ 100 := fun x hx => by have := fullL_len hx; omega
          by_cases hA : (fullL t p g inj).length > 5000
          · rw [if_pos hA]; exact ⟨true, rfl, rfl⟩
          · rw [if_neg hA]
            dsimp only
            rw [bne_self_eq_false, cond_false, containsB_eq hk _ (by omega) hsz, Option.bind_some, search_Check_eq (by omega) ⟨made_few ht, ⟨by omega, by omega⟩, ⟨by omega, by omega⟩⟩ _ inj (by dsimp only; omega) (by dsimp only; omega), Option.bind_some]
            refine ⟨_, rfl, ?_⟩
            by_cases hm : (Morphism.mk s u) ∈ fullL t p g inj
            · rw [decide_eq_true hm, full_check hz hm]; rfl
            · have : checkS t p g (Morphism.mk s u) inj ≠ 0 := fun h => hm (check_full h)
              rw [decide_eq_false hm, show (checkS t p g (Morphism.mk s u) inj == 0) = false by rw [beq_eq_false_iff_ne]; exact this]; rfl
        · have hs1 := hs.1; have hs2 := hs.2
          rw [law17_SearchBrute.b0]; unfold jn; dsimp only
          rw [decide_eq_true (show (i : Int) < (images.length : Int) by omega), cond_true, gd (inR_of (by omega))]
          by_cases c1 : (i : Int) - (s.length : Int) < 0
          · rw [decide_eq_true c1, cond_true, gd (by omega), gd (by omega), gd (by omega), gd (inR_nat (n := i) (by omega))]
            exact ih _ _ ⟨by simp [hs1], hs2⟩
          · rw [decide_eq_false c1, cond_false]
            by_cases c2 : (i : Int) - (s.length : Int) < (u.length : Int)
            · by_cases c3 : (g.fEdges.length : Int) > 0
              · rw [decide_eq_true c2, cond_true, decide_eq_true c3, cond_true, gd (by omega), gd (by omega), gd (by omega), gd (inR_nat (n := i) (by omega))]
                exact ih _ _ ⟨hs1, by simp [hs2]⟩
              · rw [decide_eq_true c2, cond_true, decide_eq_false c3, cond_false, gd (inR_nat (n := i) (by omega))]
                exact ih _ _ ⟨hs1, hs2⟩
            · rw [decide_eq_false c2, cond_false, cond_false, gd (inR_nat (n := i) (by omega))]
              exact ih _ _ ⟨hs1, hs2⟩
end Go.Proofs.YtelpgjfojhcjcaaGreat
