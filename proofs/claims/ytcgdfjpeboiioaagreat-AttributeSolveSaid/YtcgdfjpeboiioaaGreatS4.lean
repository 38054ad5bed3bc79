/- Graphs: validity, types within a type graph, and what is light. -/
import Derived.Test.YtcgdfjpeboiioaaGreatS3
namespace Go.Proofs.YtcgdfjpeboiioaaGreat
open Go Go.Abs

def kindB (x : Int) : Bool := decide (x ≥ 0) && decide (x ≤ 99)
def ltB (x n : Int) : Bool := decide (x ≥ 0) && decide (x < n)
def rightB (e : Edge) (n : Int) : Bool := kindB e.fType && (ltB e.fFrom n && ltB e.fTo n)
theorem graph_within_eq {k : Nat} (a b : Int) : graph_within k a b = some (decide (a ≥ 0) && decide (a ≤ b)) := by
  simp only [graph_within, jn]; cases decide (a ≥ 0) <;> rfl
theorem graph_fits_eq {k : Nat} (e : Edge) {n : Int} (hn : inR (n - 1)) : graph_fits k e n = some (rightB e n) := by
  simp only [graph_fits, jn, graph_within_eq, Option.bind_some, gd hn, rightB, kindB, ltB]
  have h1 : decide (e.fFrom ≤ n - 1) = decide (e.fFrom < n) := by rw [Bool.eq_iff_iff]; simp; omega
  have h2 : decide (e.fTo ≤ n - 1) = decide (e.fTo < n) := by rw [Bool.eq_iff_iff]; simp; omega
  rw [h1, h2]
  cases (decide (e.fType ≥ 0) && decide (e.fType ≤ 99)) <;> cases (decide (e.fFrom ≥ 0) && decide (e.fFrom < n)) <;> rfl
theorem ref05_kind_eq {k : Nat} (a : Int) : ref05_kind k a = some (kindB a) := by
  simp only [ref05_kind, jn, kindB]; cases decide (a ≥ 0) <;> rfl
theorem ref05_right_eq {k : Nat} (e : Edge) (n : Int) : ref05_right k e n = some (rightB e n) := by
  simp only [ref05_right, jn, ref05_kind_eq, Option.bind_some, rightB, ltB]
  cases kindB e.fType <;> cases decide (e.fFrom ≥ 0) <;> cases decide (e.fFrom < n) <;> cases decide (e.fTo ≥ 0) <;> rfl

structure FewG (g : Graph) : Prop where
  nodes : g.fNodes.length ≤ 45
  edges : g.fEdges.length ≤ 90

def edges6 (g : Graph) (i : Nat) : Int := bif anyN (fun j => !rightB (rd g.fEdges (j : Int)) (g.fNodes.length : Int)) i g.fEdges.length then 6 else 0
def nodes6 (g : Graph) (i : Nat) : Int := bif anyN (fun j => !kindB (rd g.fNodes (j : Int))) i g.fNodes.length then 6 else edges6 g 0
def graphErr (g : Graph) : Int := bif decide ((g.fNodes.length : Int) > 40) || decide ((g.fEdges.length : Int) > 80) then 3 else nodes6 g 0
theorem graph_Valid_eq {k : Nat} (hk : 200 ≤ k) {g : Graph} (hg : FewG g) : graph_Valid k g = some (graphErr g) := by
  have h1 := hg.nodes; have h2 := hg.edges
  have h3 := ContainsFunc_int (k := k) g.fNodes (fun x => graph_Valid_1 k x) (fun j => !kindB (rd g.fNodes (j : Int))) (by omega) (by omega) (fun j _ => by simp only [graph_Valid_1, graph_within_eq, Option.bind_some, kindB])
  have h4 := ContainsFunc_Edge (k := k) g.fEdges (fun x => graph_Valid_2 k x g) (fun j => !rightB (rd g.fEdges (j : Int)) (g.fNodes.length : Int)) (by omega) (by omega)
    (fun j _ => by simp only [graph_Valid_2, graph_fits_eq _ (inR_of (x := (g.fNodes.length : Int) - 1) (by omega)), Option.bind_some])
  simp only [graph_Valid, jn, h3, h4, Option.bind_some, graphErr, nodes6, edges6]
  cases decide ((g.fNodes.length : Int) > 40) <;> cases decide ((g.fEdges.length : Int) > 80) <;> cases anyN (fun j => !kindB (rd g.fNodes (j : Int))) 0 g.fNodes.length <;> cases anyN (fun j => !rightB (rd g.fEdges (j : Int)) (g.fNodes.length : Int)) 0 g.fEdges.length <;> rfl
theorem ref05_Valid_eq {k : Nat} (hk : 200 ≤ k) {g : Graph} (hg : FewG g) : ref05_Valid k g = some (graphErr g) := by
  have h1 := hg.nodes; have h2 := hg.edges
  have h3 : loop1 k (ref05_Valid.b0 k g) ((0 : Nat) : Int) = some (nodes6 g 0) := by
    refine loop1_eq (fun i => nodes6 g i) g.fNodes.length (fun rec => ?_) (fun i hi rec ih => ?_) (Nat.zero_le _) (by omega)
    · simp only [ref05_Valid.b0, show decide ((g.fNodes.length : Int) < (g.fNodes.length : Int)) = false by simp, cond_false, nodes6, anyN_end]
      have h4 : loop1 k (ref05_Valid.b1 k g) ((0 : Nat) : Int) = some (edges6 g 0) := by
        refine loop1_eq (fun i => edges6 g i) g.fEdges.length (fun rec => ?_) (fun i hi rec ih => ?_) (Nat.zero_le _) (by omega)
        · simp only [ref05_Valid.b1, show decide ((g.fEdges.length : Int) < (g.fEdges.length : Int)) = false by simp, cond_false, edges6, anyN_end]
        · simp only [edges6] at ih
          simp only [edges6, anyN_step hi, ref05_Valid.b1, show decide ((i : Int) < (g.fEdges.length : Int)) = true by simp [hi], cond_true, gd (show (0 : Int) ≤ (i : Int) ∧ (i : Int) < (g.fEdges.length : Int) by omega), ref05_right_eq, Option.bind_some, gd (inR_nat (n := i) (by omega)), ih]
          cases rightB (rd g.fEdges (i : Int)) (g.fNodes.length : Int) with
          | true => simp only [Bool.not_true, cond_false, Bool.false_or]
          | false => simp only [Bool.not_false, cond_true, Bool.true_or]
      exact h4
    · simp only [nodes6] at ih
      simp only [nodes6, anyN_step hi, ref05_Valid.b0, show decide ((i : Int) < (g.fNodes.length : Int)) = true by simp [hi], cond_true, gd (show (0 : Int) ≤ (i : Int) ∧ (i : Int) < (g.fNodes.length : Int) by omega), ref05_kind_eq, Option.bind_some, gd (inR_nat (n := i) (by omega)), ih]
      cases kindB (rd g.fNodes (i : Int)) with
      | true => simp only [Bool.not_true, cond_false, Bool.false_or]
      | false => simp only [Bool.not_false, cond_true, Bool.true_or]
  have h4 : loop1 k (ref05_Valid.b0 k g) 0 = some (nodes6 g 0) := h3
  simp only [ref05_Valid, jn, h4, graphErr]
  cases decide ((g.fNodes.length : Int) > 40) <;> cases decide ((g.fEdges.length : Int) > 80) <;> rfl

structure GoodG (g : Graph) : Prop where
  nodes : g.fNodes.length ≤ 40
  edges : g.fEdges.length ≤ 80
  kind : ∀ j : Nat, j < g.fNodes.length → 0 ≤ rd g.fNodes (j : Int) ∧ rd g.fNodes (j : Int) ≤ 99
  right : ∀ j : Nat, j < g.fEdges.length → 0 ≤ (rd g.fEdges (j : Int)).fType ∧ (0 ≤ (rd g.fEdges (j : Int)).fFrom ∧ (rd g.fEdges (j : Int)).fFrom < (g.fNodes.length : Int)) ∧ (0 ≤ (rd g.fEdges (j : Int)).fTo ∧ (rd g.fEdges (j : Int)).fTo < (g.fNodes.length : Int))
theorem anyN_false {p : Nat → Bool} {i n : Nat} (h : anyN p i n = false) : ∀ j, i ≤ j → j < n → p j = false := fun j h1 h2 => by
  cases hp : p j with
  | false => rfl
  | true => rw [anyN_iff.2 ⟨j, h1, h2, hp⟩] at h; cases h
theorem anyN_none {p : Nat → Bool} {i n : Nat} (h : ∀ j, i ≤ j → j < n → p j = false) : anyN p i n = false := by
  cases hp : anyN p i n with
  | false => rfl
  | true => obtain ⟨j, h1, h2, h3⟩ := anyN_iff.1 hp; rw [h j h1 h2] at h3; cases h3
theorem graphErr_good {g : Graph} (h : graphErr g = 0) : GoodG g := by
  unfold graphErr nodes6 edges6 at h
  cases h0 : decide ((g.fNodes.length : Int) > 40) || decide ((g.fEdges.length : Int) > 80) with
  | true => rw [h0] at h; simp at h
  | false =>
    rw [h0] at h
    cases h1 : anyN (fun j => !kindB (rd g.fNodes (j : Int))) 0 g.fNodes.length with
    | true => rw [h1] at h; simp at h
    | false =>
      rw [h1] at h
      cases h2 : anyN (fun j => !rightB (rd g.fEdges (j : Int)) (g.fNodes.length : Int)) 0 g.fEdges.length with
      | true => rw [h2] at h; simp at h
      | false =>
        simp only [Bool.or_eq_false_iff, decide_eq_false_iff_not] at h0
        refine ⟨by omega, by omega, fun j hj => ?_, fun j hj => ?_⟩
        · have := anyN_false h1 j (Nat.zero_le _) hj
          simp only [kindB, Bool.not_eq_false', Bool.and_eq_true, decide_eq_true_eq] at this
          omega
        · have := anyN_false h2 j (Nat.zero_le _) hj
          simp only [rightB, kindB, ltB, Bool.not_eq_false', Bool.and_eq_true, decide_eq_true_eq] at this
          omega
def typedB (t : Types) (g : Graph) : Bool := !anyN (fun j => decide (rd g.fNodes (j : Int) ≥ (t.fNodes.length : Int))) 0 g.fNodes.length && !anyN (fun j => decide ((rd g.fEdges (j : Int)).fType ≥ (t.fEdges.length : Int))) 0 g.fEdges.length
theorem search_within_eq {k : Nat} (hk : 200 ≤ k) (t : Types) {g : Graph} (hg : FewG g) : search_within k t g = some (typedB t g) := by
  have h1 := hg.nodes; have h2 := hg.edges
  have h3 := ContainsFunc_int (k := k) g.fNodes (fun x => search_within_1 k x t) (fun j => decide (rd g.fNodes (j : Int) ≥ (t.fNodes.length : Int))) (by omega) (by omega) (fun j _ => rfl)
  have h4 := ContainsFunc_Edge (k := k) g.fEdges (fun x => search_within_2 k x t) (fun j => decide ((rd g.fEdges (j : Int)).fType ≥ (t.fEdges.length : Int))) (by omega) (by omega) (fun j _ => rfl)
  simp only [search_within, jn, h3, h4, Option.bind_some, typedB]
  cases anyN (fun j => decide (rd g.fNodes (j : Int) ≥ (t.fNodes.length : Int))) 0 g.fNodes.length <;> rfl
def typed1 (t : Types) (g : Graph) (i : Nat) : Bool := !anyN (fun j => decide ((rd g.fEdges (j : Int)).fType < 0) || decide ((rd g.fEdges (j : Int)).fType ≥ (t.fEdges.length : Int))) i g.fEdges.length
def typed0 (t : Types) (g : Graph) (i : Nat) : Bool := !anyN (fun j => decide (rd g.fNodes (j : Int) < 0) || decide (rd g.fNodes (j : Int) ≥ (t.fNodes.length : Int))) i g.fNodes.length && typed1 t g 0
theorem ref17_Typed_eq {k : Nat} (hk : 200 ≤ k) (t : Types) {g : Graph} (hg : GoodG g) : ref17_Typed k t g = some (typedB t g) := by
  have h1 := hg.nodes; have h2 := hg.edges
  have h3 : loop1 k (ref17_Typed.b0 k t g) ((0 : Nat) : Int) = some (typed0 t g 0) := by
    refine loop1_eq (fun i => typed0 t g i) g.fNodes.length (fun rec => ?_) (fun i hi rec ih => ?_) (Nat.zero_le _) (by omega)
    · simp only [ref17_Typed.b0, show decide ((g.fNodes.length : Int) < (g.fNodes.length : Int)) = false by simp, cond_false, typed0, anyN_end, Bool.not_false, Bool.true_and]
      have h4 : loop1 k (ref17_Typed.b1 t g) ((0 : Nat) : Int) = some (typed1 t g 0) := by
        refine loop1_eq (fun i => typed1 t g i) g.fEdges.length (fun rec => ?_) (fun i hi rec ih => ?_) (Nat.zero_le _) (by omega)
        · simp only [ref17_Typed.b1, show decide ((g.fEdges.length : Int) < (g.fEdges.length : Int)) = false by simp, cond_false, typed1, anyN_end, Bool.not_false]
        · simp only [typed1] at ih
          simp only [typed1, anyN_step hi, ref17_Typed.b1, jn, show decide ((i : Int) < (g.fEdges.length : Int)) = true by simp [hi], cond_true, gd (show (0 : Int) ≤ (i : Int) ∧ (i : Int) < (g.fEdges.length : Int) by omega), gd (inR_nat (n := i) (by omega)), ih]
          cases decide ((rd g.fEdges (i : Int)).fType < 0) <;> cases decide ((rd g.fEdges (i : Int)).fType ≥ (t.fEdges.length : Int)) <;> simp
      exact h4
    · simp only [typed0] at ih
      simp only [typed0, anyN_step hi, ref17_Typed.b0, jn, show decide ((i : Int) < (g.fNodes.length : Int)) = true by simp [hi], cond_true, gd (show (0 : Int) ≤ (i : Int) ∧ (i : Int) < (g.fNodes.length : Int) by omega), gd (inR_nat (n := i) (by omega)), ih]
      cases decide (rd g.fNodes (i : Int) < 0) <;> cases decide (rd g.fNodes (i : Int) ≥ (t.fNodes.length : Int)) <;> simp
  have h5 : ref17_Typed k t g = some (typed0 t g 0) := h3
  rw [h5]; unfold typed0 typed1 typedB
  rw [anyN_congr (p := fun j => decide (rd g.fNodes (j : Int) < 0) || decide (rd g.fNodes (j : Int) ≥ (t.fNodes.length : Int))) (q := fun j => decide (rd g.fNodes (j : Int) ≥ (t.fNodes.length : Int))) (fun j _ hj => by
      rw [decide_eq_false (show ¬ rd g.fNodes (j : Int) < 0 by have := hg.kind j hj; omega), Bool.false_or]),
    anyN_congr (p := fun j => decide ((rd g.fEdges (j : Int)).fType < 0) || decide ((rd g.fEdges (j : Int)).fType ≥ (t.fEdges.length : Int))) (q := fun j => decide ((rd g.fEdges (j : Int)).fType ≥ (t.fEdges.length : Int))) (fun j _ hj => by
      rw [decide_eq_false (show ¬ (rd g.fEdges (j : Int)).fType < 0 by have := hg.right j hj; omega), Bool.false_or])]
theorem typedB_node {t : Types} {g : Graph} (h : typedB t g = true) {j : Nat} (hj : j < g.fNodes.length) : rd g.fNodes (j : Int) < (t.fNodes.length : Int) := by
  simp only [typedB, Bool.and_eq_true, Bool.not_eq_true'] at h
  have := anyN_false h.1 j (Nat.zero_le _) hj
  simp only [decide_eq_false_iff_not] at this; omega
def givenS (t : Types) (p g : Graph) : Int :=
  bif validS t != 0 then validS t else bif graphErr p != 0 then graphErr p else bif graphErr g != 0 then graphErr g else bif typedB t p && typedB t g then 0 else 13
structure Small (t : Types) (p g : Graph) : Prop where
  t : FewT t
  p : FewG p
  g : FewG g
structure Fine (t : Types) (p g : Graph) : Prop where
  ok : validS t = 0
  gp : GoodG p
  gg : GoodG g
  tp : typedB t p = true
  tg : typedB t g = true
theorem givenS_fine {t : Types} {p g : Graph} (h : givenS t p g = 0) : Fine t p g := by
  unfold givenS at h
  cases h0 : (validS t != 0) with
  | true => rw [h0] at h; simp at h0; exact absurd h h0
  | false =>
    rw [h0] at h; simp at h0
    cases h1 : (graphErr p != 0) with
    | true => rw [h1] at h; simp at h1; exact absurd h h1
    | false =>
      rw [h1] at h; simp at h1
      cases h2 : (graphErr g != 0) with
      | true => rw [h2] at h; simp at h2; exact absurd h h2
      | false =>
        rw [h2] at h; simp at h2
        cases h3 : (typedB t p && typedB t g) with
        | false => rw [h3] at h; simp at h
        | true =>
          rw [Bool.and_eq_true] at h3
          exact ⟨h0, graphErr_good h1, graphErr_good h2, h3.1, h3.2⟩
theorem search_valid_eq {k : Nat} (hk : 200 ≤ k) {t : Types} {p g : Graph} (h : Small t p g) : search_valid k t p g = some (givenS t p g) := by
  obtain ⟨r, e, hr⟩ := types_Valid_out hk h.t
  unfold search_valid givenS
  rw [e, Option.bind_some, hr]
  cases (validS t != 0) with
  | true => rfl
  | false =>
    obtain ⟨k, rfl⟩ : ∃ j, k = j + 3 := ⟨k - 3, by omega⟩
    rw [cond_false, cond_false]
    simp only [loop1, search_valid.b0, jn, show ((([p, g] : List Graph).length : Nat) : Int) = 2 from rfl, show (rd [p, g] 0) = p from rfl, show (rd [p, g] (0 + 1)) = g from rfl, graph_Valid_eq hk h.p, graph_Valid_eq hk h.g, search_within_eq hk t h.p, search_within_eq hk t h.g, Option.bind_some]
    rw [show decide ((0 : Int) < 2) = true from rfl, show decide ((0 : Int) + 1 < 2) = true from rfl, show decide ((0 : Int) + 1 + 1 < 2) = false from rfl, gd (show (0 : Int) ≤ 0 ∧ (0 : Int) < 2 by omega), gd (show (0 : Int) ≤ 0 + 1 ∧ (0 : Int) + 1 < 2 by omega), gd (show inR (0 + 1) from inR_of (by omega)), gd (show inR (0 + 1 + 1) from inR_of (by omega))]
    simp only [cond_true, cond_false]
    cases (graphErr p != 0) with
    | true => rfl
    | false =>
      cases (graphErr g != 0) with
      | true => rfl
      | false => cases typedB t p <;> cases typedB t g <;> rfl
theorem ref17_given_eq {k : Nat} (hk : 200 ≤ k) {t : Types} {p g : Graph} (h : Small t p g) : ref17_given k t p g = some (givenS t p g) := by
  obtain ⟨r, e, hr⟩ := ref04_Valid_out hk h.t
  unfold ref17_given givenS
  rw [e, Option.bind_some, hr]
  cases (validS t != 0) with
  | true => rfl
  | false =>
    rw [cond_false, cond_false, ref05_Valid_eq hk h.p, Option.bind_some]
    cases h1 : (graphErr p != 0) with
    | true => rfl
    | false =>
      rw [cond_false, cond_false, ref05_Valid_eq hk h.g, Option.bind_some]
      cases h2 : (graphErr g != 0) with
      | true => rfl
      | false =>
        simp at h1 h2
        simp only [cond_false, jn, ref17_Typed_eq hk t (graphErr_good h1), ref17_Typed_eq hk t (graphErr_good h2), Option.bind_some]
        cases typedB t p <;> cases typedB t g <;> rfl

/-! ### What is small -/
theorem rd_cover {α : Type} [Inhabited α] {l : List α} {P : α → Prop} (h : ∀ j : Nat, j < l.length → P (rd l (j : Int))) : ∀ x ∈ l, P x := by
  intro x hx
  obtain ⟨i, hi, rfl⟩ := List.mem_iff_getElem.1 hx
  have := h i hi
  simpa [rd, List.getD, List.getElem?_eq_getElem hi] using this
structure FewN (n : NodeType) : Prop where
  name : n.fName.length ≤ 40
  attrs : n.fAttrs.length ≤ 30
  attr : ∀ j : Nat, j < n.fAttrs.length → FewA (rd n.fAttrs (j : Int))
theorem ref04_Few_out {k : Nat} (hk : 200 ≤ k) {t : Types} (hA : ∀ n ∈ t.fNodes, n.fAttrs.length ≤ 140737488351232) : Out (ref04_Few k t) (fun b => b = true → FewT t) := by
  unfold ref04_Few; simp only [jn]
  cases h0 : decide ((t.fNodes.length : Int) > 20) with
  | true => exact ⟨false, rfl, fun h => by cases h⟩
  | false =>
    cases h1 : decide ((t.fEdges.length : Int) > 30) with
    | true => exact ⟨false, rfl, fun h => by cases h⟩
    | false =>
      simp at h0 h1
      rw [cond_false, cond_false]
      refine (loop2_out (S := Int) (P := fun _ i b => b = true → (∀ j : Nat, i ≤ j → j < t.fNodes.length → FewN (rd t.fNodes (j : Int))) ∧ (∀ j : Nat, j < t.fEdges.length → (rd t.fEdges (j : Int)).fName.length ≤ 40))
        (I := fun s _ => 0 ≤ s ∧ s ≤ 30) t.fNodes.length (fun s hs rec => ?_) (fun s i hi hs rec ih => ?_) k 0 0 (Nat.zero_le _) (by omega) (by omega)).mono fun b hb e => ?_
      · simp only [ref04_Few.b0, show decide ((t.fNodes.length : Int) < (t.fNodes.length : Int)) = false by simp, cond_false]
        refine (loop1_out (I := fun _ => True) (P := fun i b => b = true → ∀ j : Nat, i ≤ j → j < t.fEdges.length → (rd t.fEdges (j : Int)).fName.length ≤ 40) t.fEdges.length (fun _ rec => ?_) (fun i hi _ rec ih => ?_) k 0 (Nat.zero_le _) (by omega) trivial).mono fun b hb e => ?_
        · simp only [ref04_Few.b3, show decide ((t.fEdges.length : Int) < (t.fEdges.length : Int)) = false by simp, cond_false]
          exact ⟨_, rfl, fun _ j h1 h2 => by omega⟩
        · rw [ref04_Few.b3, show decide ((i : Int) < (t.fEdges.length : Int)) = true by simp [hi], cond_true, gd (show (0 : Int) ≤ (i : Int) ∧ (i : Int) < (t.fEdges.length : Int) by omega), gd (inR_nat (n := i) (by omega))]
          cases hc : decide (((rd t.fEdges (i : Int)).fName.length : Int) > 40) with
          | true => exact ⟨false, rfl, fun h => by cases h⟩
          | false =>
            simp at hc
            refine (ih trivial).mono fun b hb e j h1 h2 => ?_
            rcases Nat.eq_or_lt_of_le h1 with rfl | h3
            · omega
            · exact hb e j h3 h2
        · exact ⟨fun j h1 h2 => by omega, fun j hj => hb e j (Nat.zero_le _) hj⟩
      · have hal := hA _ (rd_mem (l := t.fNodes) (x := (i : Int)) (by omega) (by omega))
        have g1 : (0 : Int) ≤ (i : Int) ∧ (i : Int) < (t.fNodes.length : Int) := by omega
        simp only [ref04_Few.b0, jn]
        rw [show decide ((i : Int) < (t.fNodes.length : Int)) = true by simp [hi], cond_true, gd g1, gd g1, gd (inR_of (x := s + ((rd t.fNodes (i : Int)).fAttrs.length : Int)) (by omega))]
        cases hc : decide (s + ((rd t.fNodes (i : Int)).fAttrs.length : Int) > 30) with
        | true => exact ⟨false, rfl, fun h => by cases h⟩
        | false =>
          cases hd : decide (((rd t.fNodes (i : Int)).fName.length : Int) > 40) with
          | true => exact ⟨false, rfl, fun h => by cases h⟩
          | false =>
            simp at hc hd
            rw [cond_false, cond_false]
            refine (loop1_out (I := fun _ => True) (P := fun a b => b = true → (∀ j : Nat, a ≤ j → j < (rd t.fNodes (i : Int)).fAttrs.length → FewA (rd (rd t.fNodes (i : Int)).fAttrs (j : Int))) ∧ (∀ j : Nat, i + 1 ≤ j → j < t.fNodes.length → FewN (rd t.fNodes (j : Int))) ∧ (∀ j : Nat, j < t.fEdges.length → (rd t.fEdges (j : Int)).fName.length ≤ 40))
              (rd t.fNodes (i : Int)).fAttrs.length (fun _ rec1 => ?_) (fun a ha _ rec1 ih1 => ?_) k 0 (Nat.zero_le _) (by omega) trivial).mono fun b hb e => ?_
            · simp only [ref04_Few.b1, gd g1, show decide ((((rd t.fNodes (i : Int)).fAttrs.length : Nat) : Int) < ((rd t.fNodes (i : Int)).fAttrs.length : Int)) = false by simp, cond_false, gd (inR_nat (n := i) (by omega))]
              exact (ih _ (by omega)).mono fun b hb e => ⟨fun j h1 h2 => by omega, hb e⟩
            · have g2 : (0 : Int) ≤ (a : Int) ∧ (a : Int) < ((rd t.fNodes (i : Int)).fAttrs.length : Int) := by omega
              simp only [ref04_Few.b1, jn]
              rw [gd g1, gd g1, gd g2, show decide ((a : Int) < ((rd t.fNodes (i : Int)).fAttrs.length : Int)) = true by simp [ha], cond_true]
              cases he : decide (((rd (rd t.fNodes (i : Int)).fAttrs (a : Int)).fName.length : Int) > 40) with
              | true => exact ⟨false, rfl, fun h => by cases h⟩
              | false =>
                cases hf : decide (((rd (rd t.fNodes (i : Int)).fAttrs (a : Int)).fNames.length : Int) > 25) with
                | true => exact ⟨false, rfl, fun h => by cases h⟩
                | false =>
                  simp at he hf
                  rw [cond_false, cond_false]
                  refine (loop1_out (I := fun _ => True) (P := fun m b => b = true → (∀ j : Nat, m ≤ j → j < (rd (rd t.fNodes (i : Int)).fAttrs (a : Int)).fNames.length → (rd (rd (rd t.fNodes (i : Int)).fAttrs (a : Int)).fNames (j : Int)).length ≤ 40) ∧ (∀ j : Nat, a + 1 ≤ j → j < (rd t.fNodes (i : Int)).fAttrs.length → FewA (rd (rd t.fNodes (i : Int)).fAttrs (j : Int))) ∧ (∀ j : Nat, i + 1 ≤ j → j < t.fNodes.length → FewN (rd t.fNodes (j : Int))) ∧ (∀ j : Nat, j < t.fEdges.length → (rd t.fEdges (j : Int)).fName.length ≤ 40))
                    (rd (rd t.fNodes (i : Int)).fAttrs (a : Int)).fNames.length (fun _ rec2 => ?_) (fun m hm _ rec2 ih2 => ?_) k 0 (Nat.zero_le _) (by omega) trivial).mono fun b hb e => ?_
                  · simp only [ref04_Few.b2, show decide ((((rd (rd t.fNodes (i : Int)).fAttrs (a : Int)).fNames.length : Nat) : Int) < ((rd (rd t.fNodes (i : Int)).fAttrs (a : Int)).fNames.length : Int)) = false by simp, cond_false, gd (inR_nat (n := a) (by omega))]
                    exact (ih1 trivial).mono fun b hb e => ⟨fun j h1 h2 => by omega, hb e⟩
                  · rw [ref04_Few.b2, show decide ((m : Int) < ((rd (rd t.fNodes (i : Int)).fAttrs (a : Int)).fNames.length : Int)) = true by simp [hm], cond_true, gd (show (0 : Int) ≤ (m : Int) ∧ (m : Int) < ((rd (rd t.fNodes (i : Int)).fAttrs (a : Int)).fNames.length : Int) by omega), gd (inR_nat (n := m) (by omega))]
                    cases hc : decide (((rd (rd (rd t.fNodes (i : Int)).fAttrs (a : Int)).fNames (m : Int)).length : Int) > 40) with
                    | true => exact ⟨false, rfl, fun h => by cases h⟩
                    | false =>
                      simp at hc
                      refine (ih2 trivial).mono fun b hb e => ⟨fun j h1 h2 => ?_, (hb e).2⟩
                      rcases Nat.eq_or_lt_of_le h1 with rfl | h3
                      · omega
                      · exact (hb e).1 j h3 h2
                  · refine ⟨fun j h1 h2 => ?_, (hb e).2.2⟩
                    rcases Nat.eq_or_lt_of_le h1 with rfl | h3
                    · exact ⟨by omega, by omega, rd_cover fun j hj => (hb e).1 j (Nat.zero_le _) hj⟩
                    · exact (hb e).2.1 j h3 h2
            · refine ⟨fun j h1 h2 => ?_, (hb e).2.2⟩
              rcases Nat.eq_or_lt_of_le h1 with rfl | h3
              · exact ⟨by omega, by omega, fun j hj => (hb e).1 j (Nat.zero_le _) hj⟩
              · exact (hb e).2.1 j h3 h2
      · obtain ⟨hn, he⟩ := hb e
        have hn' : ∀ x ∈ t.fNodes, FewN x := rd_cover fun j hj => hn j (Nat.zero_le _) hj
        exact ⟨by omega, by omega, fun n h => (hn' n h).name, fun n h => (hn' n h).attrs, fun n h => rd_cover (hn' n h).attr, rd_cover he⟩
theorem ref05_Few_eq {k : Nat} (g : Graph) : ref05_Few k g = some (decide ((g.fNodes.length : Int) ≤ 45) && decide ((g.fEdges.length : Int) ≤ 90)) := by
  simp only [ref05_Few, jn]; cases decide ((g.fNodes.length : Int) ≤ 45) <;> rfl
structure LightP (t : Types) (p g : Graph) : Prop where
  small : Small t p g
  few : givenS t p g = 0 → p.fNodes.length + p.fEdges.length ≤ 6 ∧ g.fNodes.length ≤ 8 ∧ g.fEdges.length ≤ 12
theorem ref17_Light_out {k : Nat} (hk : 200 ≤ k) {t : Types} {p g : Graph} (hA : ∀ n ∈ t.fNodes, n.fAttrs.length ≤ 140737488351232) : Out (ref17_Light k t p g) (fun b => b = true → LightP t p g) := by
  unfold ref17_Light; simp only [jn]
  refine Out.bind (ref04_Few_out hk hA) fun b hb => ?_
  cases b with
  | false => exact ⟨false, rfl, fun h => by cases h⟩
  | true =>
    have ht := hb rfl
    simp only [cond_true, ref05_Few_eq, Option.bind_some]
    cases h1 : (decide ((p.fNodes.length : Int) ≤ 45) && decide ((p.fEdges.length : Int) ≤ 90)) with
    | false => exact ⟨false, rfl, fun h => by cases h⟩
    | true =>
      cases h2 : (decide ((g.fNodes.length : Int) ≤ 45) && decide ((g.fEdges.length : Int) ≤ 90)) with
      | false => exact ⟨false, rfl, fun h => by cases h⟩
      | true =>
        simp only [Bool.and_eq_true, decide_eq_true_eq] at h1 h2
        have hs : Small t p g := ⟨ht, ⟨by omega, by omega⟩, ⟨by omega, by omega⟩⟩
        simp only [cond_true, ref17_given_eq hk hs, Option.bind_some, gd (inR_of (x := (p.fNodes.length : Int) + (p.fEdges.length : Int)) (by omega))]
        cases h3 : (givenS t p g != 0) with
        | true => exact ⟨true, rfl, fun _ => ⟨hs, fun h => by simp [h] at h3⟩⟩
        | false =>
          cases h4 : decide ((p.fNodes.length : Int) + (p.fEdges.length : Int) ≤ 6) with
          | false => exact ⟨false, rfl, fun h => by cases h⟩
          | true =>
            cases h5 : decide ((g.fNodes.length : Int) ≤ 8) with
            | false => exact ⟨false, rfl, fun h => by cases h⟩
            | true =>
              refine ⟨_, rfl, fun h => ⟨hs, fun _ => ?_⟩⟩
              simp only [decide_eq_true_eq] at h4 h5 h
              omega
end Go.Proofs.YtcgdfjpeboiioaaGreat
