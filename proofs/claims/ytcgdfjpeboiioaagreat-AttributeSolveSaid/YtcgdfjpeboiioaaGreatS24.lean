/- Attributes of subtypes. -/
import Derived.Test.YtcgdfjpeboiioaaGreatS19
namespace Go.Proofs.YtcgdfjpeboiioaaGreat
open Go Go.Abs

theorem attrsS_depth {ns : List NodeType} {n : Nat} (w : WfP ns n) : ∀ (d e : Nat) (a : Int), a < (d : Int) → a < (e : Int) → a < (n : Int) → attrsS ns d a = attrsS ns e a
  | 0, e, a, h, _, _ => by rw [attrsS_neg (by omega), attrsS_neg (by omega)]
  | d + 1, 0, a, _, h, _ => by rw [attrsS_neg (by omega), attrsS_neg (by omega)]
  | d + 1, e + 1, a, h1, h2, h3 => by
    rcases Int.lt_or_le a 0 with ha | ha
    · rw [attrsS_neg ha, attrsS_neg ha]
    · have hw := wf_at w ha h3
      rw [attrsS_pos ha, attrsS_pos ha, attrsS_depth w d e _ (by omega) (by omega) (by omega)]
/-- A subtype's attributes begin with those of its supertype. -/
theorem attrs_sub {ns : List NodeType} {n : Nat} (w : WfP ns n) : ∀ (d : Nat) (a b : Int), b ∈ chain ns d a → a < (n : Int) → ∃ r, attrsS ns n a = attrsS ns n b ++ r
  | 0, a, b, h, _ => by simp [chain] at h
  | d + 1, a, b, h, h3 => by
    rcases Int.lt_or_le a 0 with ha | ha
    · rw [chain_neg ha] at h; simp at h
    · have hw := wf_at w ha h3
      rw [chain_pos ha] at h
      rcases List.mem_cons.1 h with rfl | h
      · exact ⟨[], by simp⟩
      · obtain ⟨r, e⟩ := attrs_sub w d _ b h (by omega)
        refine ⟨r ++ (rd ns a).fAttrs, ?_⟩
        rw [attrsS_depth w n (n + 1) a (by omega) (by omega) h3, attrsS_pos ha, e, List.append_assoc]
end Go.Proofs.YtcgdfjpeboiioaaGreat

namespace Go.Proofs.YtcgdfjpeboiioaaGreat
open Go Go.Abs

def Bnd (x : Attr) : Prop := -1000000 ≤ x.fLow ∧ x.fHigh ≤ 1000000
theorem own_bounds {x : Attr} (h : attrOwn x = 0) : Bnd x := by
  unfold attrOwn at h
  cases h0 : (namesS x.fNames != 0) with
  | true => rw [h0, cond_true] at h; rw [h] at h0; cases h0
  | false =>
    rw [h0, cond_false] at h
    by_cases c : (x.fNames.length : Int) > 0
    · have hn : x.fNames.length ≤ 20 := by
        by_cases q : (x.fNames.length : Int) > 20
        · unfold namesS at h0; rw [decide_eq_true q] at h0; cases h0
        · omega
      rw [decide_eq_true c, cond_true] at h
      cases h1 : (x.fLow == 0 && x.fHigh == (x.fNames.length : Int) - 1) with
      | false => rw [h1] at h; cases h
      | true =>
        rw [Bool.and_eq_true, beq_iff_eq, beq_iff_eq] at h1
        exact ⟨by omega, by omega⟩
    · rw [decide_eq_false c, cond_false] at h
      cases h1 : (decide (-1000000 ≤ x.fLow) && (decide (x.fLow ≤ x.fHigh) && decide (x.fHigh ≤ 1000000))) with
      | false => rw [h1] at h; cases h
      | true =>
        rw [Bool.and_eq_true, Bool.and_eq_true, decide_eq_true_eq, decide_eq_true_eq, decide_eq_true_eq] at h1
        exact ⟨h1.1, h1.2.2⟩
theorem valid_node {t : Types} (h : validS t = 0) {j : Nat} (hj : j < t.fNodes.length) : nodeErr t j = 0 := by
  unfold validS at h
  cases h0 : ((t.fNodes.length : Int) == 0) with
  | true => rw [h0] at h; cases h
  | false =>
    cases h1 : decide ((t.fNodes.length : Int) > 12) || decide ((t.fEdges.length : Int) > 20) with
    | true => rw [h0, h1] at h; cases h
    | false =>
      rw [h0, h1, cond_false, cond_false] at h
      unfold valid2S at h
      cases h2 : (scan (nodeErr t) 0 t.fNodes.length != 0) with
      | true => rw [h2, cond_true] at h; rw [h] at h2; cases h2
      | false => exact scan_zero (by simpa using h2) j (Nat.zero_le _) hj
theorem node_scan {t : Types} {i : Nat} (h : nodeErr t i = 0) : scan (attrErr (attrsS t.fNodes 100 (i : Int))) ((attrsS t.fNodes 100 (i : Int)).length - (rd t.fNodes (i : Int)).fAttrs.length) (attrsS t.fNodes 100 (i : Int)).length = 0 := by
  unfold nodeErr at h
  cases h1 : isNameB (rd t.fNodes (i : Int)).fName with
  | false => rw [h1] at h; cases h
  | true =>
    cases h2 : anyN (fun j => (rd t.fNodes (j : Int)).fName == (rd t.fNodes (i : Int)).fName) 0 i with
    | true => rw [h1, h2] at h; cases h
    | false =>
      cases h3 : decide ((rd t.fNodes (i : Int)).fParent < -1) || decide ((rd t.fNodes (i : Int)).fParent ≥ (i : Int)) with
      | true => rw [h1, h2, h3] at h; cases h
      | false =>
        cases h4 : decide (((rd t.fNodes (i : Int)).fAttrs.length : Int) > 4) with
        | true => rw [h1, h2, h3, h4] at h; cases h
        | false =>
          cases h5 : decide (((attrsS t.fNodes 100 (i : Int)).length : Int) > 8) with
          | true => rw [h1, h2, h3, h4, h5] at h; cases h
          | false => rw [h1, h2, h3, h4, h5] at h; exact h
theorem rd_append {A B : List Attr} {q : Nat} (hq : q < B.length) : rd (A ++ B) ((A.length + q : Nat) : Int) = B[q] := by
  unfold rd
  rw [Int.toNat_natCast, List.getD_eq_getElem?_getD, List.getElem?_append_right (by omega), Nat.add_sub_cancel_left, List.getElem?_eq_getElem hq]; rfl
theorem node_bounds {t : Types} (h : validS t = 0) : ∀ n ∈ t.fNodes, ∀ x ∈ n.fAttrs, Bnd x := fun n hn x hx => by
  obtain ⟨i, hi, rfl⟩ := List.mem_iff_getElem.1 hn
  obtain ⟨w, h12, _⟩ := valid_wf h
  have er : rd t.fNodes (i : Int) = t.fNodes[i] := by simp [rd, List.getD, List.getElem?_eq_getElem hi]
  obtain ⟨q, hq, rfl⟩ := List.mem_iff_getElem.1 hx
  have hs := node_scan (valid_node h hi)
  rw [er] at hs
  have ea : attrsS t.fNodes 100 (i : Int) = attrsS t.fNodes 99 (rd t.fNodes (i : Int)).fParent ++ t.fNodes[i].fAttrs := by rw [attrsS_pos (by omega), er]
  have hz := scan_zero hs ((attrsS t.fNodes 100 (i : Int)).length - t.fNodes[i].fAttrs.length + q) (by omega) (by rw [ea, List.length_append]; omega)
  have eq : rd (attrsS t.fNodes 100 (i : Int)) (((attrsS t.fNodes 100 (i : Int)).length - t.fNodes[i].fAttrs.length + q : Nat) : Int) = t.fNodes[i].fAttrs[q] := by
    rw [ea, List.length_append]
    have : (attrsS t.fNodes 99 (rd t.fNodes (i : Int)).fParent).length + t.fNodes[i].fAttrs.length - t.fNodes[i].fAttrs.length + q = (attrsS t.fNodes 99 (rd t.fNodes (i : Int)).fParent).length + q := by omega
    rw [this]
    exact rd_append hq
  unfold attrErr at hz
  rw [eq] at hz
  cases h1 : isNameB t.fNodes[i].fAttrs[q].fName with
  | false => rw [h1] at hz; cases hz
  | true =>
    rw [h1, Bool.not_true, cond_false] at hz
    cases h2 : anyN (fun j => (rd (attrsS t.fNodes 100 (i : Int)) (j : Int)).fName == t.fNodes[i].fAttrs[q].fName) 0 ((attrsS t.fNodes 100 (i : Int)).length - t.fNodes[i].fAttrs.length + q) with
    | true => rw [h2] at hz; cases hz
    | false => rw [h2] at hz; exact own_bounds hz
theorem attrs_bounds {t : Types} (h : validS t = 0) {a : Int} (ha : a < (t.fNodes.length : Int)) : ∀ x ∈ attrsS t.fNodes t.fNodes.length a, Bnd x :=
  attrsS_all (valid_wf h).1 (node_bounds h) _ _ ha
end Go.Proofs.YtcgdfjpeboiioaaGreat

namespace Go.Proofs.YtcgdfjpeboiioaaGreat
open Go Go.Abs

theorem firstF_ok {e : Nat → Int} {z : Int × Int} : ∀ (d i : Nat), (firstF e z i d).2 = 0 → ∀ j, i ≤ j → j < i + d → e j = 0
  | 0, i, _ => fun j h1 h2 => by omega
  | d + 1, i, h => fun j h1 h2 => by
    unfold firstF at h
    cases c : (e i != 0) with
    | true =>
      rw [c, cond_true] at h
      have h' : e i = 0 := h
      rw [h'] at c; cases c
    | false =>
      rw [c, cond_false] at h
      rcases Nat.eq_or_lt_of_le h1 with q | q
      · rw [← q]; simpa using c
      · exact firstF_ok d (i + 1) h j q (by omega)
structure HostOk (t : Types) (h : Host) : Prop where
  val : validS t = 0
  graph : GoodG h.fGraph
  len : h.fValues.length = h.fGraph.fNodes.length
  node : ∀ j, j < h.fGraph.fNodes.length → nodeV t (rd h.fGraph.fNodes (j : Int)) (rd h.fValues (j : Int)) = 0
theorem host_ok {t : Types} {h : Host} (e : (hostV t h).2 = 0) : HostOk t h := by
  unfold hostV at e
  cases h0 : (validS t != 0) with
  | true => rw [h0, cond_true] at e; have e' : validS t = 0 := e; rw [e'] at h0; cases h0
  | false =>
    cases h1 : (graphErr h.fGraph != 0) with
    | true => rw [h0, h1, cond_false, cond_true] at e; have e' : graphErr h.fGraph = 0 := e; rw [e'] at h1; cases h1
    | false =>
      cases h2 : ((h.fValues.length : Int) != (h.fGraph.fNodes.length : Int)) with
      | true => rw [h0, h1, h2] at e; cases e
      | false =>
        rw [h0, h1, h2, cond_false, cond_false, cond_false] at e
        have hl : (h.fValues.length : Int) = (h.fGraph.fNodes.length : Int) := by simpa using h2
        exact ⟨by simpa using h0, graphErr_good (by simpa using h1), by omega, fun j hj => firstF_ok _ _ e j (Nat.zero_le _) (by omega)⟩
structure PatOk (t : Types) (p : Pattern) : Prop where
  val : validS t = 0
  graph : GoodG p.fGraph
  typed : typedB t p.fGraph = true
  v0 : 0 ≤ p.fVars
  v1 : p.fVars ≤ 12
  slots : p.fSlots.length ≤ 10
  tests : p.fTests.length ≤ 10
  slot : ∀ j, j < p.fSlots.length → slotBad t p j = false
  test : ∀ j, j < p.fTests.length → testE p.fVars (rd p.fTests (j : Int)) = 0
theorem pat_ok {t : Types} {p : Pattern} (e : patE t p = 0) : PatOk t p := by
  unfold patE at e
  cases h0 : (validS t != 0) with
  | true => rw [h0, cond_true] at e; rw [e] at h0; cases h0
  | false =>
    cases h1 : (graphErr p.fGraph != 0) with
    | true => rw [h0, h1, cond_false, cond_true] at e; rw [e] at h1; cases h1
    | false =>
      cases h2 : typedB t p.fGraph with
      | false => rw [h0, h1, h2] at e; cases e
      | true =>
        cases h3 : (decide (p.fVars < 0) || decide (p.fVars > 12)) with
        | true => rw [h0, h1, h2, h3] at e; cases e
        | false =>
          cases h4 : (decide ((p.fSlots.length : Int) > 10) || decide ((p.fTests.length : Int) > 10)) with
          | true => rw [h0, h1, h2, h3, h4] at e; cases e
          | false =>
            rw [h0, h1, h2, h3, h4] at e
            have e : slotsE t p 0 = 0 := e
            rw [Bool.or_eq_false_iff, decide_eq_false_iff_not, decide_eq_false_iff_not] at h3 h4
            unfold slotsE at e
            cases h5 : anyN (slotBad t p) 0 p.fSlots.length with
            | true => rw [h5] at e; cases e
            | false =>
              rw [h5, cond_false] at e
              unfold restE at e
              cases h6 : (testsE p.fVars p.fTests != 0) with
              | true => rw [h6, cond_true] at e; rw [e] at h6; cases h6
              | false =>
                have h7 : testsE p.fVars p.fTests = 0 := by simpa using h6
                unfold testsE at h7
                rw [decide_eq_false h3.1, decide_eq_false h3.2, Bool.or_false, cond_false, decide_eq_false (show ¬ (p.fTests.length : Int) > 40 by omega), cond_false] at h7
                exact ⟨by simpa using h0, graphErr_good (by simpa using h1), h2, by omega, by omega, by omega, by omega, fun j hj => anyN_false h5 j (Nat.zero_le _) hj, fun j hj => scan_zero h7 j (Nat.zero_le _) hj⟩
theorem termB_sm {n : Int} {x : Term} (h : termB n x = true) : Sm x.fAdd := by
  unfold termB at h
  simp only [Bool.and_eq_true, decide_eq_true_eq] at h
  exact ⟨by omega, by omega⟩
theorem test_sm {n : Int} {x : Test} (h : testE n x = 0) : Sm x.fLeft.fAdd ∧ Sm x.fRight.fAdd := by
  unfold testE at h
  cases h0 : (x.fKind != 1) && (x.fKind != 2) with
  | true => rw [h0] at h; cases h
  | false =>
    cases h1 : (termB n x.fLeft && termB n x.fRight) with
    | false => rw [h0, h1] at h; cases h
    | true => rw [Bool.and_eq_true] at h1; exact ⟨termB_sm h1.1, termB_sm h1.2⟩
theorem node_val {t : Types} {kind : Int} {vs : List Int} (h : nodeV t kind vs = 0) : kind < (t.fNodes.length : Int) ∧ vs.length = (attrsS t.fNodes t.fNodes.length kind).length ∧ ∀ j, j < vs.length → outB (attrsS t.fNodes t.fNodes.length kind) vs j = false := by
  unfold nodeV at h
  by_cases c : kind ≥ (t.fNodes.length : Int)
  · rw [decide_eq_true c] at h; cases h
  · rw [decide_eq_false c, cond_false] at h
    cases h1 : (rd t.fNodes kind).fAbstract with
    | true => rw [h1] at h; cases h
    | false =>
      cases h2 : ((vs.length : Int) != ((attrsS t.fNodes t.fNodes.length kind).length : Int)) with
      | true => rw [h1, h2] at h; cases h
      | false =>
        have hl : (vs.length : Int) = ((attrsS t.fNodes t.fNodes.length kind).length : Int) := by simpa using h2
        cases h3 : anyN (outB (attrsS t.fNodes t.fNodes.length kind) vs) 0 (attrsS t.fNodes t.fNodes.length kind).length with
        | true => rw [h1, h2, h3] at h; cases h
        | false => exact ⟨by omega, by omega, fun j hj => anyN_false h3 j (Nat.zero_le _) (by omega)⟩
end Go.Proofs.YtcgdfjpeboiioaaGreat

namespace Go.Proofs.YtcgdfjpeboiioaaGreat
open Go Go.Abs

theorem slot_ok {t : Types} {p : Pattern} {h : Host} {m : Morphism} (P : PatOk t p) (H : HostOk t h) (l1 : m.fNodes.length = p.fGraph.fNodes.length) (hn : ∀ i, i < m.fNodes.length → nodeM t p.fGraph h.fGraph m i = 0) {i : Nat} (hi : i < p.fSlots.length) : SlotOk p h m i := by
  obtain ⟨w, h12, _⟩ := valid_wf P.val
  have hb := P.slot i hi
  unfold slotBad at hb
  rw [Bool.or_eq_false_iff, Bool.or_eq_false_iff, Bool.not_eq_false', Bool.not_eq_false', Bool.not_eq_false', Bool.and_eq_true, Bool.and_eq_true, decide_eq_true_eq, decide_eq_true_eq, decide_eq_true_eq, decide_eq_true_eq] at hb
  obtain ⟨hA, ⟨hv0, hv1⟩, ha0, ha1⟩ := hb
  by_cases c : 0 ≤ (rd p.fSlots (i : Int)).fNode ∧ (rd p.fSlots (i : Int)).fNode < (p.fGraph.fNodes.length : Int)
  · by_cases d : 0 ≤ (rd p.fSlots (i : Int)).fAttr ∧ (rd p.fSlots (i : Int)).fAttr < ((attrsS t.fNodes t.fNodes.length (rd p.fGraph.fNodes (rd p.fSlots (i : Int)).fNode)).length : Int)
    · have hm := hn (rd p.fSlots (i : Int)).fNode.toNat (by omega)
      have hin := nodeM_in hm
      unfold nodeM at hm
      rw [Int.toNat_of_nonneg c.1] at hm hin
      generalize hx : rd m.fNodes (rd p.fSlots (i : Int)).fNode = x at *
      rw [decide_eq_false (show ¬ x < 0 by omega), decide_eq_false (show ¬ x ≥ (h.fGraph.fNodes.length : Int) by omega), Bool.or_false, cond_false] at hm
      cases hs : isB t.fNodes (rd h.fGraph.fNodes x) (rd p.fGraph.fNodes (rd p.fSlots (i : Int)).fNode) with
      | false => rw [hs] at hm; cases hm
      | true =>
        have hnode := H.node x.toNat (by omega)
        rw [Int.toNat_of_nonneg hin.1] at hnode
        obtain ⟨k1, k2, k3⟩ := node_val hnode
        unfold isB at hs
        rw [decide_eq_true_eq] at hs
        obtain ⟨r, er⟩ := attrs_sub w 100 _ _ hs k1
        have hlen : (rd p.fSlots (i : Int)).fAttr < ((rd h.fValues x).length : Int) := by
          rw [k2, er, List.length_append]; omega
        have ho := k3 (rd p.fSlots (i : Int)).fAttr.toNat (by omega)
        unfold outB at ho
        rw [Int.toNat_of_nonneg d.1, Bool.or_eq_false_iff, decide_eq_false_iff_not, decide_eq_false_iff_not] at ho
        have hbd := attrs_bounds P.val k1 _ (rd_mem (l := attrsS t.fNodes t.fNodes.length (rd h.fGraph.fNodes x)) (x := (rd p.fSlots (i : Int)).fAttr) d.1 (by rw [← k2]; omega))
        have hb1 := hbd.1; have hb2 := hbd.2
        have hlh := H.len
        exact ⟨c.1, by omega, by rw [hx]; exact hin.1, by rw [hx, hlh]; exact hin.2, d.1, by rw [hx]; exact hlen, hv1, ⟨ha0, ha1⟩, by rw [hx]; exact ⟨by omega, by omega⟩⟩
    · rw [attrP_no c d] at hA; cases hA
  · rw [attrP_out c] at hA; cases hA
theorem solve_ok {t : Types} {p : Pattern} {h : Host} {m : Morphism} (P : PatOk t p) (H : HostOk t h) (hm : matchS t p.fGraph h.fGraph m = 0) : SolveOk p h m := by
  obtain ⟨l1, _, hn, _⟩ := matchS_zero hm
  have h1 := P.slots; have h2 := P.tests
  exact ⟨P.v0, P.v1, by omega, by omega, fun i hi => slot_ok P H l1 hn hi, fun i hi => (test_sm (P.test i hi)).1, fun i hi => (test_sm (P.test i hi)).2⟩
theorem given_ok {t : Types} {p : Pattern} {h : Host} (e : givenE t p h = 0) : PatOk t p ∧ HostOk t h := by
  unfold givenE at e
  cases h0 : (patE t p != 0) with
  | true => rw [h0, cond_true] at e; rw [e] at h0; cases h0
  | false => rw [h0, cond_false] at e; exact ⟨pat_ok (by simpa using h0), host_ok e⟩
theorem check_match {t : Types} {p g : Graph} {m : Morphism} (h : checkS t p g m false = 0) : matchS t p g m = 0 := by
  unfold checkS at h
  cases hz : (givenS t p g != 0) with
  | true => rw [hz, cond_true] at h; rw [h] at hz; cases hz
  | false =>
    rw [hz, cond_false] at h
    unfold matchI at h
    cases hy : (matchS t p g m != 0) with
    | true => rw [hy, cond_true] at h; rw [h] at hy; cases hy
    | false => simpa using hy
end Go.Proofs.YtcgdfjpeboiioaaGreat

namespace Go.Proofs.YtcgdfjpeboiioaaGreat
open Go Go.Abs

theorem Solve_two {k : Nat} (hk : 1000 ≤ k) {t : Types} {p : Pattern} {h : Host} {m : Morphism} (ht : FewT t) (hp : FewP p) (hh : FewG h.fGraph) (h1 : m.fNodes.length ≤ 100) (h2 : m.fEdges.length ≤ 100) :
    ∃ r, attribute_Solve k t p h m = some r ∧ ref21_Solve k t p h m = some r ∧ r.1.length ≤ 12 := by
  obtain ⟨g1, g2⟩ := given_two hk ht hp hh
  have sm : Small t p.fGraph h.fGraph := ⟨ht, hp.graph, hh⟩
  unfold attribute_Solve ref21_Solve
  rw [g1, g2, Option.bind_some, Option.bind_some]
  cases c : (givenE t p h != 0) with
  | true => exact ⟨_, rfl, rfl, Nat.zero_le _⟩
  | false =>
    obtain ⟨P, H⟩ := given_ok (show givenE t p h = 0 by simpa using c)
    rw [cond_false, cond_false, search_Check_eq (by omega) sm m false h1 h2, ref_Check_eq (by omega) sm m false h1 h2, Option.bind_some, Option.bind_some]
    cases d : (checkS t p.fGraph h.fGraph m false != 0) with
    | true => exact ⟨_, rfl, rfl, Nat.zero_le _⟩
    | false =>
      obtain ⟨r, e1, e2, hr⟩ := solve_two hk (solve_ok P H (check_match (show checkS t p.fGraph h.fGraph m false = 0 by simpa using d)))
      rw [cond_false, cond_false, e1, e2]
      exact ⟨(r.1, r.2), rfl, rfl, hr⟩
theorem law_solve {k : Nat} (hk : 6000 ≤ k) (aw : law21_awake k = some true) (c : Case) (m : Morphism) (hA : ∀ n ∈ c.fT.fNodes, n.fAttrs.length ≤ 140737488351232) : law21_AttributeSolve k c m = some true := by
  unfold law21_AttributeSolve jn; dsimp only
  rw [aw, Option.bind_some, Bool.not_true, cond_false, Option.bind_some, cond_true]
  obtain ⟨b, e, hb⟩ := light_out (k := k) (by omega) c.fP c.fH hA
  rw [e, Option.bind_some]
  cases b with
  | false => rfl
  | true =>
    have L := hb rfl
    rw [Bool.not_true, cond_false]
    by_cases c1 : (m.fNodes.length : Int) > 100
    · rw [decide_eq_true c1]; rfl
    · by_cases c2 : (m.fEdges.length : Int) > 100
      · rw [decide_eq_false c1, decide_eq_true c2]; rfl
      · rw [decide_eq_false c1, decide_eq_false c2, cond_false, cond_false, copied21 L.pat, Option.bind_some, copied15 (by omega) L.host, Option.bind_some]
        obtain ⟨r, e1, e2, hr⟩ := Solve_two (k := k) (by omega) (m := m) L.light.small.t L.pat L.host.graph (by omega) (by omega)
        rw [e1, e2, Option.bind_some, Option.bind_some, beq_self_eq_true, cond_true, Equal_int_self r.1 (by omega) (by omega)]; rfl
end Go.Proofs.YtcgdfjpeboiioaaGreat
