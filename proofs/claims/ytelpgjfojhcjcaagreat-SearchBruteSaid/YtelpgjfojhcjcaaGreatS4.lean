/- Graphs: validity, types within a type graph, and what is light. -/
import Derived.Test.YtelpgjfojhcjcaaGreatS3
namespace Go.Proofs.YtelpgjfojhcjcaaGreat
open Go Go.Abs

def kindB (x : Int) : Bool := decide (x ≥ 0) && decide (x ≤ 99)
def ltB (x n : Int) : Bool := decide (x ≥ 0) && decide (x < n)
def rightB (e : Edge) (n : Int) : Bool := kindB e.fType && (ltB e.fFrom n && ltB e.fTo n)
theorem graph_within_eq {k : Nat} (a b : Int) : graph_within k a b = some (decide (a ≥ 0) && decide (a ≤ b)) := by
  simp only [graph_within, jn]; cases decide (a ≥ 0) <;> rfl
theorem graph_fits_eq {k : Nat} (e : Edge) {n : Int} (hn : inR (n - 1)) : graph_fits k e n = some (rightB e n) := by
  simp only [graph_fits, jn, graph_within_eq, Option.bind_some, gd hn, rightB, kindB, ltB]
  have h1 : decide (e.fFrom ≤ n - 1) = decide (e.fFrom < n) := by rw [Bool.eq_iff_iff]; simp; omega
  have h2 : decide (e.fTo ≤ n - 1) = decide (e.fTo < n) := by rw [Bool.eq_iff_iff]; simp; omega
  rw [h1, h2]
  cases (decide (e.fType ≥ 0) && decide (e.fType ≤ 99)) <;> cases (decide (e.fFrom ≥ 0) && decide (e.fFrom < n)) <;> rfl
structure FewG (g : Graph) : Prop where
  nodes : g.fNodes.length ≤ 45
  edges : g.fEdges.length ≤ 90

def edges6 (g : Graph) (i : Nat) : Int := bif anyN (fun j => !rightB (rd g.fEdges (j : Int)) (g.fNodes.length : Int)) i g.fEdges.length then 6 else 0
def nodes6 (g : Graph) (i : Nat) : Int := bif anyN (fun j => !kindB (rd g.fNodes (j : Int))) i g.fNodes.length then 6 else edges6 g 0
def graphErr (g : Graph) : Int := bif decide ((g.fNodes.length : Int) > 40) || decide ((g.fEdges.length : Int) > 80) then 3 else nodes6 g 0
theorem graph_Valid_eq {k : Nat} (hk : 200 ≤ k) {g : Graph} (hg : FewG g) : graph_Valid k g = some (graphErr g) := by
  have h1 := hg.nodes; have h2 := hg.edges
  have h3 := ContainsFunc_int (k := k) g.fNodes (fun x => graph_Valid_1 k x) (fun j => !kindB (rd g.fNodes (j : Int))) (by omega) (by omega) (fun j _ => by simp only [graph_Valid_1, graph_within_eq, Option.bind_some, kindB])
  have h4 := ContainsFunc_Edge (k := k) g.fEdges (fun x => graph_Valid_2 k x g) (fun j => !rightB (rd g.fEdges (j : Int)) (g.fNodes.length : Int)) (by omega) (by omega)
    (fun j _ => by simp only [graph_Valid_2, graph_fits_eq _ (inR_of (x := (g.fNodes.length : Int) - 1) (by omega)), Option.bind_some])
  simp only [graph_Valid, jn, h3, h4, Option.bind_some, graphErr, nodes6, edges6]
  cases decide ((g.fNodes.length : Int) > 40) <;> cases decide ((g.fEdges.length : Int) > 80) <;> cases anyN (fun j => !kindB (rd g.fNodes (j : Int))) 0 g.fNodes.length <;> cases anyN (fun j => !rightB (rd g.fEdges (j : Int)) (g.fNodes.length : Int)) 0 g.fEdges.length <;> rfl
structure GoodG (g : Graph) : Prop where
  nodes : g.fNodes.length ≤ 40
  edges : g.fEdges.length ≤ 80
  kind : ∀ j : Nat, j < g.fNodes.length → 0 ≤ rd g.fNodes (j : Int) ∧ rd g.fNodes (j : Int) ≤ 99
  right : ∀ j : Nat, j < g.fEdges.length → 0 ≤ (rd g.fEdges (j : Int)).fType ∧ (0 ≤ (rd g.fEdges (j : Int)).fFrom ∧ (rd g.fEdges (j : Int)).fFrom < (g.fNodes.length : Int)) ∧ (0 ≤ (rd g.fEdges (j : Int)).fTo ∧ (rd g.fEdges (j : Int)).fTo < (g.fNodes.length : Int))
theorem anyN_false {p : Nat → Bool} {i n : Nat} (h : anyN p i n = false) : ∀ j, i ≤ j → j < n → p j = false := fun j h1 h2 => by
  cases hp : p j with
  | false => rfl
  | true => rw [anyN_iff.2 ⟨j, h1, h2, hp⟩] at h; cases h
theorem anyN_none {p : Nat → Bool} {i n : Nat} (h : ∀ j, i ≤ j → j < n → p j = false) : anyN p i n = false := by
  cases hp : anyN p i n with
  | false => rfl
  | true => obtain ⟨j, h1, h2, h3⟩ := anyN_iff.1 hp; rw [h j h1 h2] at h3; cases h3
theorem graphErr_good {g : Graph} (h : graphErr g = 0) : GoodG g := by
  unfold graphErr nodes6 edges6 at h
  cases h0 : decide ((g.fNodes.length : Int) > 40) || decide ((g.fEdges.length : Int) > 80) with
  | true => rw [h0] at h; simp at h
  | false =>
    rw [h0] at h
    cases h1 : anyN (fun j => !kindB (rd g.fNodes (j : Int))) 0 g.fNodes.length with
    | true => rw [h1] at h; simp at h
    | false =>
      rw [h1] at h
      cases h2 : anyN (fun j => !rightB (rd g.fEdges (j : Int)) (g.fNodes.length : Int)) 0 g.fEdges.length with
      | true => rw [h2] at h; simp at h
      | false =>
        simp only [Bool.or_eq_false_iff, decide_eq_false_iff_not] at h0
        refine ⟨by omega, by omega, fun j hj => ?_, fun j hj => ?_⟩
        · have := anyN_false h1 j (Nat.zero_le _) hj
          simp only [kindB, Bool.not_eq_false', Bool.and_eq_true, decide_eq_true_eq] at this
          omega
        · have := anyN_false h2 j (Nat.zero_le _) hj
          simp only [rightB, kindB, ltB, Bool.not_eq_false', Bool.and_eq_true, decide_eq_true_eq] at this
          omega
theorem good_graphErr {g : Graph} (h : GoodG g) (ht : ∀ j : Nat, j < g.fEdges.length → (rd g.fEdges (j : Int)).fType ≤ 99) : graphErr g = 0 := by
  have a := h.nodes; have b := h.edges
  unfold graphErr nodes6 edges6
  have h0 : (decide ((g.fNodes.length : Int) > 40) || decide ((g.fEdges.length : Int) > 80)) = false := by simp; omega
  rw [h0, cond_false, anyN_none, cond_false, anyN_none, cond_false]
  · intro j _ hj
    have := h.right j hj; have := ht j hj
    simp [rightB, kindB, ltB]; omega
  · intro j _ hj
    have := h.kind j hj
    simp [kindB]; omega

def typedB (t : Types) (g : Graph) : Bool := !anyN (fun j => decide (rd g.fNodes (j : Int) ≥ (t.fNodes.length : Int))) 0 g.fNodes.length && !anyN (fun j => decide ((rd g.fEdges (j : Int)).fType ≥ (t.fEdges.length : Int))) 0 g.fEdges.length
theorem search_within_eq {k : Nat} (hk : 200 ≤ k) (t : Types) {g : Graph} (hg : FewG g) : search_within k t g = some (typedB t g) := by
  have h1 := hg.nodes; have h2 := hg.edges
  have h3 := ContainsFunc_int (k := k) g.fNodes (fun x => search_within_1 k x t) (fun j => decide (rd g.fNodes (j : Int) ≥ (t.fNodes.length : Int))) (by omega) (by omega) (fun j _ => rfl)
  have h4 := ContainsFunc_Edge (k := k) g.fEdges (fun x => search_within_2 k x t) (fun j => decide ((rd g.fEdges (j : Int)).fType ≥ (t.fEdges.length : Int))) (by omega) (by omega) (fun j _ => rfl)
  simp only [search_within, jn, h3, h4, Option.bind_some, typedB]
  cases anyN (fun j => decide (rd g.fNodes (j : Int) ≥ (t.fNodes.length : Int))) 0 g.fNodes.length <;> rfl
def typed1 (t : Types) (g : Graph) (i : Nat) : Bool := !anyN (fun j => decide ((rd g.fEdges (j : Int)).fType < 0) || decide ((rd g.fEdges (j : Int)).fType ≥ (t.fEdges.length : Int))) i g.fEdges.length
def typed0 (t : Types) (g : Graph) (i : Nat) : Bool := !anyN (fun j => decide (rd g.fNodes (j : Int) < 0) || decide (rd g.fNodes (j : Int) ≥ (t.fNodes.length : Int))) i g.fNodes.length && typed1 t g 0
theorem typedB_node {t : Types} {g : Graph} (h : typedB t g = true) {j : Nat} (hj : j < g.fNodes.length) : rd g.fNodes (j : Int) < (t.fNodes.length : Int) := by
  simp only [typedB, Bool.and_eq_true, Bool.not_eq_true'] at h
  have := anyN_false h.1 j (Nat.zero_le _) hj
  simp only [decide_eq_false_iff_not] at this; omega
theorem typedB_edge {t : Types} {g : Graph} (h : typedB t g = true) {j : Nat} (hj : j < g.fEdges.length) : (rd g.fEdges (j : Int)).fType < (t.fEdges.length : Int) := by
  simp only [typedB, Bool.and_eq_true, Bool.not_eq_true'] at h
  have := anyN_false h.2 j (Nat.zero_le _) hj
  simp only [decide_eq_false_iff_not] at this; omega

def givenS (t : Types) (p g : Graph) : Int :=
  bif validS t != 0 then validS t else bif graphErr p != 0 then graphErr p else bif graphErr g != 0 then graphErr g else bif typedB t p && typedB t g then 0 else 13
structure Small (t : Types) (p g : Graph) : Prop where
  t : FewT t
  p : FewG p
  g : FewG g
structure Fine (t : Types) (p g : Graph) : Prop where
  ok : validS t = 0
  gp : GoodG p
  gg : GoodG g
  tp : typedB t p = true
  tg : typedB t g = true
theorem givenS_fine {t : Types} {p g : Graph} (h : givenS t p g = 0) : Fine t p g := by
  unfold givenS at h
  cases h0 : (validS t != 0) with
  | true => rw [h0] at h; simp at h0; exact absurd h h0
  | false =>
    rw [h0] at h; simp at h0
    cases h1 : (graphErr p != 0) with
    | true => rw [h1] at h; simp at h1; exact absurd h h1
    | false =>
      rw [h1] at h; simp at h1
      cases h2 : (graphErr g != 0) with
      | true => rw [h2] at h; simp at h2; exact absurd h h2
      | false =>
        rw [h2] at h; simp at h2
        cases h3 : (typedB t p && typedB t g) with
        | false => rw [h3] at h; simp at h
        | true =>
          rw [Bool.and_eq_true] at h3
          exact ⟨h0, graphErr_good h1, graphErr_good h2, h3.1, h3.2⟩
theorem search_valid_eq {k : Nat} (hk : 200 ≤ k) {t : Types} {p g : Graph} (h : Small t p g) : search_valid k t p g = some (givenS t p g) := by
  obtain ⟨r, e, hr⟩ := types_Valid_out hk h.t
  unfold search_valid givenS
  rw [e, Option.bind_some, hr]
  cases (validS t != 0) with
  | true => rfl
  | false =>
    obtain ⟨k, rfl⟩ : ∃ j, k = j + 3 := ⟨k - 3, by omega⟩
    rw [cond_false, cond_false]
    simp only [loop1, search_valid.b0, jn, show ((([p, g] : List Graph).length : Nat) : Int) = 2 from rfl, show (rd [p, g] 0) = p from rfl, show (rd [p, g] (0 + 1)) = g from rfl, graph_Valid_eq hk h.p, graph_Valid_eq hk h.g, search_within_eq hk t h.p, search_within_eq hk t h.g, Option.bind_some]
    rw [show decide ((0 : Int) < 2) = true from rfl, show decide ((0 : Int) + 1 < 2) = true from rfl, show decide ((0 : Int) + 1 + 1 < 2) = false from rfl, gd (show (0 : Int) ≤ 0 ∧ (0 : Int) < 2 by omega), gd (show (0 : Int) ≤ 0 + 1 ∧ (0 : Int) + 1 < 2 by omega), gd (show inR (0 + 1) from inR_of (by omega)), gd (show inR (0 + 1 + 1) from inR_of (by omega))]
    simp only [cond_true, cond_false]
    cases (graphErr p != 0) with
    | true => rfl
    | false =>
      cases (graphErr g != 0) with
      | true => rfl
      | false => cases typedB t p <;> cases typedB t g <;> rfl
/-! ### What is small -/
theorem rd_cover {α : Type} [Inhabited α] {l : List α} {P : α → Prop} (h : ∀ j : Nat, j < l.length → P (rd l (j : Int))) : ∀ x ∈ l, P x := by
  intro x hx
  obtain ⟨i, hi, rfl⟩ := List.mem_iff_getElem.1 hx
  have := h i hi
  simpa [rd, List.getD, List.getElem?_eq_getElem hi] using this
structure FewN (n : NodeType) : Prop where
  name : n.fName.length ≤ 40
  attrs : n.fAttrs.length ≤ 30
  attr : ∀ j : Nat, j < n.fAttrs.length → FewA (rd n.fAttrs (j : Int))
structure LightP (t : Types) (p g : Graph) : Prop where
  small : Small t p g
  few : givenS t p g = 0 → p.fNodes.length + p.fEdges.length ≤ 6 ∧ g.fNodes.length ≤ 8 ∧ g.fEdges.length ≤ 12
end Go.Proofs.YtelpgjfojhcjcaaGreat
