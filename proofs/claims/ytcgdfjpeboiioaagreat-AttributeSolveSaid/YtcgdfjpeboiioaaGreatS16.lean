/- The error of a host: both readings answer the same. -/
import Derived.Test.YtcgdfjpeboiioaaGreatS14
namespace Go.Proofs.YtcgdfjpeboiioaaGreat
open Go Go.Abs

def firstF (e : Nat → Int) (z : Int × Int) : Nat → Nat → Int × Int
  | _, 0 => z
  | i, d + 1 => bif e i != 0 then ((i : Int), e i) else firstF e z (i + 1) d
/-- The first place with an error, and it; else 'z'. -/
def first (e : Nat → Int) (z : Int × Int) (i n : Nat) : Int × Int := firstF e z i (n - i)
theorem first_end {e : Nat → Int} {z : Int × Int} {n : Nat} : first e z n n = z := by simp [first, firstF]
theorem first_step {e : Nat → Int} {z : Int × Int} {i n : Nat} (h : i < n) : first e z i n = bif e i != 0 then ((i : Int), e i) else first e z (i + 1) n := by
  have : n - i = (n - (i + 1)) + 1 := by omega
  unfold first; rw [this]; rfl
theorem valid_edge {t : Types} (h : validS t = 0) {j : Nat} (hj : j < t.fEdges.length) : insB (rd t.fEdges (j : Int)).fFrom t = true ∧ insB (rd t.fEdges (j : Int)).fTo t = true := by
  unfold validS at h
  cases h0 : ((t.fNodes.length : Int) == 0) with
  | true => rw [h0] at h; cases h
  | false =>
    cases h1 : decide ((t.fNodes.length : Int) > 12) || decide ((t.fEdges.length : Int) > 20) with
    | true => rw [h0, h1] at h; cases h
    | false =>
      rw [h0, h1, cond_false, cond_false] at h
      unfold valid2S at h
      cases h2 : (scan (nodeErr t) 0 t.fNodes.length != 0) with
      | true => rw [h2, cond_true] at h; rw [h] at h2; cases h2
      | false =>
        rw [h2, cond_false] at h
        have he := scan_zero h j (Nat.zero_le _) hj
        unfold edgeErr at he
        cases a1 : isNameB (rd t.fEdges (j : Int)).fName with
        | false => rw [a1] at he; cases he
        | true =>
          cases a2 : anyN (fun q => (rd t.fEdges (q : Int)).fName == (rd t.fEdges (j : Int)).fName) 0 j with
          | true => rw [a1, a2] at he; cases he
          | false =>
            cases a3 : insB (rd t.fEdges (j : Int)).fFrom t with
            | false => rw [a1, a2, a3] at he; cases he
            | true =>
              cases a4 : insB (rd t.fEdges (j : Int)).fTo t with
              | false => rw [a1, a2, a3, a4] at he; cases he
              | true => exact ⟨rfl, rfl⟩
theorem insB_range {a : Int} {t : Types} (h : insB a t = true) : 0 ≤ a ∧ a < (t.fNodes.length : Int) := by
  unfold insB at h; simpa using h
theorem types_given2_eq {k : Nat} (hk : 200 ≤ k) {t : Types} (ht : FewT t) (hv : validS t = 0) {a b : Int} (h0 : 0 ≤ a) (ha : a < (t.fNodes.length : Int)) (g0 : 0 ≤ b) (gb : b < (t.fNodes.length : Int)) : types_given k t [a, b] = some 0 := by
  obtain ⟨r, e, hr⟩ := types_Valid_out hk ht
  unfold types_given
  rw [e, Option.bind_some, hr, hv]
  rw [ContainsFunc_int (k := k) [a, b] (fun x => types_given_1 k x t) (fun j => decide (rd [a, b] (j : Int) < 0) || decide (rd [a, b] (j : Int) ≥ (t.fNodes.length : Int))) (by simp; omega) (by simp) (fun j _ => by
    simp only [types_given_1, jn]; cases decide (rd [a, b] (j : Int) < 0) <;> rfl)]
  rw [anyN_none fun j _ hj => ?_]
  · rfl
  · have : j = 0 ∨ j = 1 := by simp at hj; omega
    rcases this with rfl | rfl
    · have e : rd [a, b] ((0 : Nat) : Int) = a := rfl
      rw [e, decide_eq_false (by omega), decide_eq_false (by omega)]; rfl
    · have e : rd [a, b] ((1 : Nat) : Int) = b := rfl
      rw [e, decide_eq_false (by omega), decide_eq_false (by omega)]; rfl
def fitsB (t : Types) (e a b : Int) : Bool := isB t.fNodes a (rd t.fEdges e).fFrom && isB t.fNodes b (rd t.fEdges e).fTo
theorem Fits_eq {k : Nat} (hk : 200 ≤ k) {t : Types} (ht : FewT t) (hv : validS t = 0) {e a b : Int} (e0 : 0 ≤ e) (e1 : e < (t.fEdges.length : Int)) (h0 : 0 ≤ a) (ha : a < (t.fNodes.length : Int)) (g0 : 0 ≤ b) (gb : b < (t.fNodes.length : Int)) :
    types_Fits k t e a b = some (fitsB t e a b) := by
  obtain ⟨w, h12, _⟩ := valid_wf hv
  unfold types_Fits fitsB jn; dsimp only
  rw [types_given2_eq hk ht hv h0 ha g0 gb, Option.bind_some, bne_self_eq_false, cond_false, decide_eq_false (show ¬ e < 0 by omega), cond_false, decide_eq_false (show ¬ e ≥ (t.fEdges.length : Int) by omega), cond_false, gd ⟨e0, e1⟩, types_is_eq hk w (by omega) ha, Option.bind_some]
  cases isB t.fNodes a (rd t.fEdges e).fFrom with
  | false => rfl
  | true => rw [cond_true, gd ⟨e0, e1⟩, types_is_eq hk w (by omega) gb]; rfl
theorem ref_Fits_eq {k : Nat} (hk : 200 ≤ k) {t : Types} (ht : FewT t) (hv : validS t = 0) {e a b : Int} (e0 : 0 ≤ e) (e1 : e < (t.fEdges.length : Int)) (h0 : 0 ≤ a) (ha : a < (t.fNodes.length : Int)) (g0 : 0 ≤ b) (gb : b < (t.fNodes.length : Int)) :
    ref04_Fits k t e a b = some (fitsB t e a b) := by
  obtain ⟨w, h12, h20⟩ := valid_wf hv
  have hE := valid_edge hv (j := e.toNat) (by omega)
  rw [Int.toNat_of_nonneg e0] at hE
  have f1 := insB_range hE.1; have f2 := insB_range hE.2
  unfold ref04_Fits fitsB jn; dsimp only
  rw [ref04_given_eq hk ht hv h0 ha g0 gb, Option.bind_some, bne_self_eq_false, cond_false, gd (inR_of (by omega)), ref04_in_eq, Option.bind_some, decide_eq_true (show e ≥ 0 by omega), decide_eq_true (show e ≤ (t.fEdges.length : Int) - 1 by omega), Bool.and_true, Bool.not_true, cond_false, gd ⟨e0, e1⟩,
    ref04_Below1_eq hk w (by omega) h0 ha f1.1, Option.bind_some]
  cases isB t.fNodes a (rd t.fEdges e).fFrom with
  | false => rfl
  | true => rw [cond_true, gd ⟨e0, e1⟩, ref04_Below1_eq hk w (by omega) g0 gb f2.1]; rfl
def outB (l : List Attr) (vs : List Int) (i : Nat) : Bool := decide (rd vs (i : Int) < (rd l (i : Int)).fLow) || decide (rd vs (i : Int) > (rd l (i : Int)).fHigh)
def nodeV (t : Types) (kind : Int) (vs : List Int) : Int :=
  bif decide (kind ≥ (t.fNodes.length : Int)) then 6 else bif (rd t.fNodes kind).fAbstract then 13 else bif ((vs.length : Int) != ((attrsS t.fNodes t.fNodes.length kind).length : Int)) then 20
  else bif anyN (outB (attrsS t.fNodes t.fNodes.length kind) vs) 0 (attrsS t.fNodes t.fNodes.length kind).length then 6 else 0
theorem node_eq {k : Nat} (hk : 1000 ≤ k) {t : Types} (ht : FewT t) (hv : validS t = 0) {a : Int} (h0 : 0 ≤ a) (vs : List Int) : host_node k t a vs = some (nodeV t a vs) := by
  obtain ⟨w, h12, _⟩ := valid_wf hv
  unfold host_node nodeV
  by_cases c : a ≥ (t.fNodes.length : Int)
  · rw [decide_eq_true c]; rfl
  · have ha : a < (t.fNodes.length : Int) := by omega
    have hl := attrsS_len w (fun x hx => ht.nattr x hx) t.fNodes.length a ha
    rw [decide_eq_false c, cond_false, cond_false, gd ⟨h0, ha⟩, Attrs_eq hk ht hv h0 ha, Option.bind_some]
    cases (rd t.fNodes a).fAbstract with
    | true => rfl
    | false =>
      rw [cond_false, cond_false]
      generalize attrsS t.fNodes t.fNodes.length a = l at *
      cases c2 : ((vs.length : Int) != (l.length : Int)) with
      | true => rfl
      | false =>
        have c2' : (vs.length : Int) = (l.length : Int) := by simpa using c2
        rw [cond_false, cond_false]
        refine loop1_eq (fun i => bif anyN (outB l vs) i l.length then 6 else 0) l.length (fun rec => ?_) (fun i hi rec ih => ?_) (k := k) (i := 0) (Nat.zero_le _) (by omega)
        · rw [host_node.b0, decide_eq_false (show ¬ (l.length : Int) < (l.length : Int) by omega), cond_false, anyN_end]; rfl
        · rw [host_node.b0]; unfold jn; dsimp only
          rw [decide_eq_true (show (i : Int) < (l.length : Int) by omega), cond_true, gd ⟨by omega, by omega⟩, gd (show (0 : Int) ≤ (i : Int) ∧ (i : Int) < (vs.length : Int) by omega), gd (inR_nat (n := i) (by omega)), ih, anyN_step hi, outB]
          cases decide (rd vs (i : Int) < (rd l (i : Int)).fLow) with
          | true => rfl
          | false => rw [cond_false, gd (show (0 : Int) ≤ (i : Int) ∧ (i : Int) < (vs.length : Int) by omega)]; cases decide (rd vs (i : Int) > (rd l (i : Int)).fHigh) <;> rfl
theorem ref_node_eq {k : Nat} (hk : 1000 ≤ k) {t : Types} (ht : FewT t) (hv : validS t = 0) {a : Int} (h0 : 0 ≤ a) (vs : List Int) : ref15_node k t a vs = some (nodeV t a vs) := by
  obtain ⟨w, h12, _⟩ := valid_wf hv
  unfold ref15_node nodeV
  by_cases c : a ≥ (t.fNodes.length : Int)
  · rw [decide_eq_true c]; rfl
  · have ha : a < (t.fNodes.length : Int) := by omega
    have hl := attrsS_len w (fun x hx => ht.nattr x hx) t.fNodes.length a ha
    rw [decide_eq_false c, cond_false, cond_false, gd ⟨h0, ha⟩, ref04_Attrs_eq hk ht hv h0 ha, Option.bind_some]
    cases (rd t.fNodes a).fAbstract with
    | true => rfl
    | false =>
      rw [cond_false, cond_false]
      generalize attrsS t.fNodes t.fNodes.length a = l at *
      cases c2 : ((vs.length : Int) != (l.length : Int)) with
      | true => rfl
      | false =>
        have c2' : (vs.length : Int) = (l.length : Int) := by simpa using c2
        have gv : ∀ i, i < l.length → (0 : Int) ≤ (i : Int) ∧ (i : Int) < (vs.length : Int) := fun i hi => by omega
        have gl : ∀ i, i < l.length → (0 : Int) ≤ (i : Int) ∧ (i : Int) < (l.length : Int) := fun i hi => by omega
        rw [cond_false, cond_false]
        refine loop1_eq (fun i => bif anyN (outB l vs) i l.length then 6 else 0) l.length (fun rec => ?_) (fun i hi rec ih => ?_) (k := k) (i := 0) (Nat.zero_le _) (by omega)
        · rw [ref15_node.b0, decide_eq_false (show ¬ (l.length : Int) < (l.length : Int) by omega), cond_false, anyN_end]; rfl
        · rw [ref15_node.b0]; unfold jn; dsimp only
          rw [decide_eq_true (show (i : Int) < (l.length : Int) by omega), cond_true, gd (gv i hi), gd (gl i hi), gd (inR_nat (n := i) (by omega)), ih, anyN_step hi, outB]
          cases decide (rd vs (i : Int) < (rd l (i : Int)).fLow) with
          | true => rfl
          | false => rw [cond_false, gd (gv i hi), gd (gl i hi)]; cases decide (rd vs (i : Int) > (rd l (i : Int)).fHigh) <;> rfl
end Go.Proofs.YtcgdfjpeboiioaaGreat

namespace Go.Proofs.YtcgdfjpeboiioaaGreat
open Go Go.Abs

def edgeV (t : Types) (g : Graph) (i : Nat) : Int :=
  bif decide ((rd g.fEdges (i : Int)).fType ≥ (t.fEdges.length : Int)) then 6 else bif fitsB t (rd g.fEdges (i : Int)).fType (rd g.fNodes (rd g.fEdges (i : Int)).fFrom) (rd g.fNodes (rd g.fEdges (i : Int)).fTo) then 0 else 13
def hostN (t : Types) (h : Host) (i : Nat) : Int × Int := first (fun i => nodeV t (rd h.fGraph.fNodes (i : Int)) (rd h.fValues (i : Int))) (first (edgeV t h.fGraph) (-1, 0) 0 h.fGraph.fEdges.length) i h.fGraph.fNodes.length
def hostV (t : Types) (h : Host) : Int × Int :=
  bif validS t != 0 then (-1, validS t) else bif graphErr h.fGraph != 0 then (-1, graphErr h.fGraph) else bif ((h.fValues.length : Int) != (h.fGraph.fNodes.length : Int)) then (-1, 20) else hostN t h 0
/-- No node is wrong: all nodes have a type. -/
theorem nodes_typed {t : Types} {h : Host} {n : Nat} (hk : ∀ i, i < n → nodeV t (rd h.fGraph.fNodes (i : Int)) (rd h.fValues (i : Int)) = 0) : ∀ i, i < n → rd h.fGraph.fNodes (i : Int) < (t.fNodes.length : Int) := fun i hi => by
  have := hk i hi
  unfold nodeV at this
  by_cases c : rd h.fGraph.fNodes (i : Int) ≥ (t.fNodes.length : Int)
  · rw [decide_eq_true c] at this; cases this
  · omega
theorem host_edges {k : Nat} (hk : 1000 ≤ k) {t : Types} {h : Host} (ht : FewT t) (hv : validS t = 0) (hg : GoodG h.fGraph) (hn : ∀ i, i < h.fGraph.fNodes.length → rd h.fGraph.fNodes (i : Int) < (t.fNodes.length : Int)) :
    loop1 k (host_Valid.b1 k t h) 0 = some (first (edgeV t h.fGraph) (-1, 0) 0 h.fGraph.fEdges.length) ∧ loop1 k (ref15_Valid.b1 k t h) 0 = some (first (edgeV t h.fGraph) (-1, 0) 0 h.fGraph.fEdges.length) := by
  have h1 := hg.nodes; have h2 := hg.edges
  have nd : ∀ x : Int, 0 ≤ x → x < (h.fGraph.fNodes.length : Int) → 0 ≤ rd h.fGraph.fNodes x ∧ rd h.fGraph.fNodes x < (t.fNodes.length : Int) := fun x x0 x1 => by
    have a := (hg.kind x.toNat (by omega)).1; have b := hn x.toNat (by omega)
    rw [Int.toNat_of_nonneg x0] at a b
    exact ⟨a, b⟩
  constructor
  · refine loop1_eq (fun i => first (edgeV t h.fGraph) (-1, 0) i h.fGraph.fEdges.length) h.fGraph.fEdges.length (fun rec => ?_) (fun i hi rec ih => ?_) (k := k) (i := 0) (Nat.zero_le _) (by omega)
    · rw [host_Valid.b1, decide_eq_false (show ¬ (h.fGraph.fEdges.length : Int) < (h.fGraph.fEdges.length : Int) by omega), cond_false, first_end]
    · obtain ⟨r0, ⟨r1, r2⟩, r3, r4⟩ := hg.right i hi
      have n1 := nd _ r1 r2; have n2 := nd _ r3 r4
      rw [host_Valid.b1, decide_eq_true (show (i : Int) < (h.fGraph.fEdges.length : Int) by omega), cond_true, gd ⟨by omega, by omega⟩, first_step hi, edgeV]
      by_cases c : (rd h.fGraph.fEdges (i : Int)).fType ≥ (t.fEdges.length : Int)
      · rw [decide_eq_true c]; rfl
      · rw [decide_eq_false c, cond_false, gd ⟨r1, r2⟩, gd ⟨r3, r4⟩, Fits_eq (by omega) ht hv r0 (by omega) n1.1 n1.2 n2.1 n2.2, Option.bind_some, gd (inR_nat (n := i) (by omega)), ih, cond_false]
        cases fitsB t (rd h.fGraph.fEdges (i : Int)).fType (rd h.fGraph.fNodes (rd h.fGraph.fEdges (i : Int)).fFrom) (rd h.fGraph.fNodes (rd h.fGraph.fEdges (i : Int)).fTo) <;> rfl
  · refine loop1_eq (fun i => first (edgeV t h.fGraph) (-1, 0) i h.fGraph.fEdges.length) h.fGraph.fEdges.length (fun rec => ?_) (fun i hi rec ih => ?_) (k := k) (i := 0) (Nat.zero_le _) (by omega)
    · rw [ref15_Valid.b1, decide_eq_false (show ¬ (h.fGraph.fEdges.length : Int) < (h.fGraph.fEdges.length : Int) by omega), cond_false, first_end]
    · obtain ⟨r0, ⟨r1, r2⟩, r3, r4⟩ := hg.right i hi
      have n1 := nd _ r1 r2; have n2 := nd _ r3 r4
      rw [ref15_Valid.b1, decide_eq_true (show (i : Int) < (h.fGraph.fEdges.length : Int) by omega), cond_true, gd ⟨by omega, by omega⟩, first_step hi, edgeV]
      by_cases c : (rd h.fGraph.fEdges (i : Int)).fType ≥ (t.fEdges.length : Int)
      · rw [decide_eq_true c]; rfl
      · rw [decide_eq_false c, cond_false, gd ⟨r1, r2⟩, gd ⟨r3, r4⟩, ref_Fits_eq (by omega) ht hv r0 (by omega) n1.1 n1.2 n2.1 n2.2, Option.bind_some, gd (inR_nat (n := i) (by omega)), ih, cond_false]
        cases fitsB t (rd h.fGraph.fEdges (i : Int)).fType (rd h.fGraph.fNodes (rd h.fGraph.fEdges (i : Int)).fFrom) (rd h.fGraph.fNodes (rd h.fGraph.fEdges (i : Int)).fTo) <;> rfl
theorem host_nodes {k : Nat} (hk : 1000 ≤ k) {t : Types} {h : Host} (ht : FewT t) (hv : validS t = 0) (hg : GoodG h.fGraph) (hl : h.fValues.length = h.fGraph.fNodes.length) :
    loop1 k (host_Valid.b0 k t h) 0 = some (hostN t h 0) ∧ loop1 k (ref15_Valid.b0 k t h) 0 = some (hostN t h 0) := by
  have h1 := hg.nodes; have h2 := hg.edges
  constructor
  · refine Out.eq (loop1_out (I := fun i => ∀ j, j < i → nodeV t (rd h.fGraph.fNodes (j : Int)) (rd h.fValues (j : Int)) = 0) (P := fun i r => r = hostN t h i) h.fGraph.fNodes.length (fun hI rec => ?_) (fun i hi hI rec ih => ?_) k 0 (Nat.zero_le _) (by omega) (fun j hj => by omega))
    · rw [host_Valid.b0, decide_eq_false (show ¬ (h.fGraph.fNodes.length : Int) < (h.fGraph.fNodes.length : Int) by omega), cond_false, (host_edges hk ht hv hg (nodes_typed hI)).1, hostN, first_end]
      exact ⟨_, rfl, rfl⟩
    · have r0 := (hg.kind i hi).1
      rw [host_Valid.b0, decide_eq_true (show (i : Int) < (h.fGraph.fNodes.length : Int) by omega), cond_true, gd ⟨by omega, by omega⟩, gd ⟨by omega, by omega⟩, node_eq hk ht hv r0, Option.bind_some, gd (inR_nat (n := i) (by omega)), hostN, first_step hi]
      cases c : (nodeV t (rd h.fGraph.fNodes (i : Int)) (rd h.fValues (i : Int)) != 0) with
      | true => exact ⟨_, rfl, rfl⟩
      | false =>
        refine ih fun j hj => ?_
        rcases Nat.lt_succ_iff_lt_or_eq.1 hj with hj | rfl
        · exact hI j hj
        · simpa using c
  · refine Out.eq (loop1_out (I := fun i => ∀ j, j < i → nodeV t (rd h.fGraph.fNodes (j : Int)) (rd h.fValues (j : Int)) = 0) (P := fun i r => r = hostN t h i) h.fGraph.fNodes.length (fun hI rec => ?_) (fun i hi hI rec ih => ?_) k 0 (Nat.zero_le _) (by omega) (fun j hj => by omega))
    · rw [ref15_Valid.b0, decide_eq_false (show ¬ (h.fGraph.fNodes.length : Int) < (h.fGraph.fNodes.length : Int) by omega), cond_false, (host_edges hk ht hv hg (nodes_typed hI)).2, hostN, first_end]
      exact ⟨_, rfl, rfl⟩
    · have r0 := (hg.kind i hi).1
      rw [ref15_Valid.b0, decide_eq_true (show (i : Int) < (h.fGraph.fNodes.length : Int) by omega), cond_true, gd ⟨by omega, by omega⟩, gd ⟨by omega, by omega⟩, ref_node_eq hk ht hv r0, Option.bind_some, gd (inR_nat (n := i) (by omega)), hostN, first_step hi]
      cases c : (nodeV t (rd h.fGraph.fNodes (i : Int)) (rd h.fValues (i : Int)) != 0) with
      | true => exact ⟨_, rfl, rfl⟩
      | false =>
        refine ih fun j hj => ?_
        rcases Nat.lt_succ_iff_lt_or_eq.1 hj with hj | rfl
        · exact hI j hj
        · simpa using c
theorem host_valid_eq {k : Nat} (hk : 1000 ≤ k) {t : Types} {h : Host} (ht : FewT t) (hh : FewG h.fGraph) : Out (host_Valid k t h) (fun r => r.2 = (hostV t h).2 ∧ (validS t = 0 → r = hostV t h)) ∧ Out (ref15_Valid k t h) (fun r => r.2 = (hostV t h).2 ∧ (validS t = 0 → r = hostV t h)) := by
  obtain ⟨r, e, hr⟩ := types_Valid_out (k := k) (by omega) ht
  obtain ⟨r', e', hr'⟩ := ref04_Valid_out (k := k) (by omega) ht
  unfold host_Valid ref15_Valid hostV
  rw [e, Option.bind_some, hr, e', Option.bind_some, hr']
  cases hv : (validS t != 0) with
  | true => exact ⟨⟨_, rfl, rfl, fun h => by rw [h] at hv; cases hv⟩, ⟨_, rfl, rfl, fun h => by rw [h] at hv; cases hv⟩⟩
  | false =>
    have hv' : validS t = 0 := by simpa using hv
    rw [cond_false, cond_false, cond_false, graph_Valid_eq (by omega) hh, ref05_Valid_eq (by omega) hh, Option.bind_some, Option.bind_some]
    cases hg : (graphErr h.fGraph != 0) with
    | true => exact ⟨⟨_, rfl, rfl, fun _ => rfl⟩, ⟨_, rfl, rfl, fun _ => rfl⟩⟩
    | false =>
      have good := graphErr_good (show graphErr h.fGraph = 0 by simpa using hg)
      rw [cond_false, cond_false, cond_false]
      cases hl : ((h.fValues.length : Int) != (h.fGraph.fNodes.length : Int)) with
      | true => exact ⟨⟨_, rfl, rfl, fun _ => rfl⟩, ⟨_, rfl, rfl, fun _ => rfl⟩⟩
      | false =>
        have hl' : h.fValues.length = h.fGraph.fNodes.length := by have : (h.fValues.length : Int) = (h.fGraph.fNodes.length : Int) := by simpa using hl
                                                                   omega
        obtain ⟨p, q⟩ := host_nodes hk ht hv' good hl'
        rw [cond_false, cond_false, cond_false, p, q]
        exact ⟨⟨_, rfl, rfl, fun _ => rfl⟩, ⟨_, rfl, rfl, fun _ => rfl⟩⟩
end Go.Proofs.YtcgdfjpeboiioaaGreat
