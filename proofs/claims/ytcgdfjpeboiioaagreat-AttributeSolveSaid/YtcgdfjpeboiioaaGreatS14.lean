/- Attributes, slots, tests: what the two readings of a pattern answer. -/
import Derived.Test.YtcgdfjpeboiioaaGreatS5
namespace Go.Proofs.YtcgdfjpeboiioaaGreat
open Go Go.Abs

theorem set_rd {α : Type} [Inhabited α] {l : List α} {i : Nat} (hi : i < l.length) : l.set i (rd l (i : Int)) = l := by
  have : rd l (i : Int) = l[i] := by simp [rd, List.getD, List.getElem?_eq_getElem hi]
  rw [this, List.set_getElem_self]
theorem take_rdA {α : Type} [Inhabited α] {l : List α} {i : Nat} (hi : i < l.length) : l.take (i + 1) = l.take i ++ [rd l (i : Int)] := by
  have : rd l (i : Int) = l[i] := by simp [rd, List.getD, List.getElem?_eq_getElem hi]
  rw [this, List.take_succ_eq_append_getElem hi]
theorem Attrs_eq {k : Nat} (hk : 1000 ≤ k) {t : Types} (ht : FewT t) (hv : validS t = 0) {a : Int} (h0 : 0 ≤ a) (ha : a < (t.fNodes.length : Int)) : types_Attrs k t a = some (attrsS t.fNodes t.fNodes.length a, 0) := by
  obtain ⟨w, h12, _⟩ := valid_wf hv
  have hl := attrsS_len w (fun x hx => ht.nattr x hx) t.fNodes.length a ha
  have hA := attrsS_all (G := FewA) w (fun x hx => ht.attr x hx) t.fNodes.length a ha
  unfold types_Attrs
  rw [types_given_eq (by omega) ht hv h0 ha, Option.bind_some, bne_self_eq_false, cond_false, types_attrs_eq w (fun x hx => ht.nattr x hx) t.fNodes.length k a (by omega) (by omega) h0 ha ha, Option.bind_some]
  generalize attrsS t.fNodes t.fNodes.length a = l at *
  refine Out.eq (loop2_out (S := List Attr) (P := fun _ _ r => r = (l, 0)) (I := fun s _ => s = l) l.length (fun s hs rec => ?_) (fun s i hi hs rec ih => ?_) k 0 l (Nat.zero_le _) (by omega) rfl)
  · rw [types_Attrs.b0, decide_eq_false (show ¬ (l.length : Int) < (l.length : Int) by omega), cond_false, hs]; exact ⟨_, rfl, rfl⟩
  · subst hs
    have hf := (hA _ (rd_mem (l := s) (x := (i : Int)) (by omega) (by omega))).names
    rw [types_Attrs.b0, decide_eq_true (show (i : Int) < (s.length : Int) by omega), cond_true, gd ⟨by omega, by omega⟩]
    unfold slices_Clone_string
    rw [gd (show (rd s (i : Int)).fNames.length ≤ lim by unfold lim; omega), Option.bind_some, gd ⟨by omega, by omega⟩, gd (inR_nat (n := i) (by omega))]
    exact ih _ (set_rd hi)
theorem ref04_given_eq {k : Nat} (hk : 200 ≤ k) {t : Types} (ht : FewT t) (hv : validS t = 0) {a b : Int} (h0 : 0 ≤ a) (ha : a < (t.fNodes.length : Int)) (g0 : 0 ≤ b) (gb : b < (t.fNodes.length : Int)) : ref04_given k t a b = some 0 := by
  obtain ⟨r, e, hr⟩ := ref04_Valid_out hk ht
  have h20 := ht.nodes
  unfold ref04_given jn; dsimp only
  rw [e, Option.bind_some, hr, hv, bne_self_eq_false, cond_false, gd (inR_of (by omega)), ref04_in_eq, Option.bind_some]
  rw [decide_eq_true (show a ≥ 0 by omega), decide_eq_true (show a ≤ (t.fNodes.length : Int) - 1 by omega), Bool.and_true, Bool.not_true, cond_false, gd (inR_of (by omega)), ref04_in_eq, Option.bind_some]
  rw [decide_eq_true (show b ≥ 0 by omega), decide_eq_true (show b ≤ (t.fNodes.length : Int) - 1 by omega)]; rfl
theorem ref04_Attrs_eq {k : Nat} (hk : 1000 ≤ k) {t : Types} (ht : FewT t) (hv : validS t = 0) {a : Int} (h0 : 0 ≤ a) (ha : a < (t.fNodes.length : Int)) : ref04_Attrs k t a = some (attrsS t.fNodes t.fNodes.length a, 0) := by
  obtain ⟨w, h12, _⟩ := valid_wf hv
  have hl := attrsS_len w (fun x hx => ht.nattr x hx) t.fNodes.length a ha
  have hA := attrsS_all (G := FewA) w (fun x hx => ht.attr x hx) t.fNodes.length a ha
  unfold ref04_Attrs
  rw [ref04_given_eq (by omega) ht hv h0 ha h0 ha, Option.bind_some, bne_self_eq_false, cond_false, ref04_attrs_eq w (fun x hx => ht.nattr x hx) t.fNodes.length k a (by omega) (by omega) ha ha, Option.bind_some]
  generalize attrsS t.fNodes t.fNodes.length a = l at *
  refine Out.eq (loop2_out (S := List Attr) (P := fun _ _ r => r = (l, 0)) (I := fun s i => s = l.take i) l.length (fun s hs rec => ?_) (fun s i hi hs rec ih => ?_) k 0 [] (Nat.zero_le _) (by omega) rfl)
  · rw [ref04_Attrs.b0, decide_eq_false (show ¬ (l.length : Int) < (l.length : Int) by omega), cond_false, hs, List.take_length]; exact ⟨_, rfl, rfl⟩
  · have hf := (hA _ (rd_mem (l := l) (x := (i : Int)) (by omega) (by omega))).names
    have hsl : s.length ≤ 360 := by rw [hs, List.length_take]; omega
    rw [ref04_Attrs.b0, decide_eq_true (show (i : Int) < (l.length : Int) by omega), cond_true, gd ⟨by omega, by omega⟩, gd (show (rd l (i : Int)).fNames.length ≤ lim by unfold lim; omega), gd (show s.length + [rd l (i : Int)].length ≤ lim by unfold lim; simp; omega), gd (inR_nat (n := i) (by omega))]
    exact ih _ (by rw [hs, take_rdA hi])
end Go.Proofs.YtcgdfjpeboiioaaGreat

namespace Go.Proofs.YtcgdfjpeboiioaaGreat
open Go Go.Abs

theorem within_eq {k : Nat} (a b c : Int) : attribute_within k a b c = some (decide (a ≥ b) && decide (a ≤ c)) := by
  unfold attribute_within jn; dsimp only
  cases decide (a ≥ b) <;> rfl
def noAttr : Attr × Bool := (Attr.mk [] 0 0 [], false)
def attrP (t : Types) (g : Graph) (n a : Int) : Attr × Bool :=
  if 0 ≤ n ∧ n < (g.fNodes.length : Int) then (if 0 ≤ a ∧ a < ((attrsS t.fNodes t.fNodes.length (rd g.fNodes n)).length : Int) then (rd (attrsS t.fNodes t.fNodes.length (rd g.fNodes n)) a, true) else noAttr) else noAttr
/-- A type graph without error, and a graph whose nodes have its types. -/
structure Over (t : Types) (g : Graph) : Prop where
  few : FewT t
  val : validS t = 0
  nodes : ∀ x ∈ g.fNodes, 0 ≤ x ∧ x < (t.fNodes.length : Int)
  len : g.fNodes.length ≤ 45
theorem Over.attrs {t : Types} {g : Graph} (h : Over t g) {n : Int} (h0 : 0 ≤ n) (h1 : n < (g.fNodes.length : Int)) : (attrsS t.fNodes t.fNodes.length (rd g.fNodes n)).length ≤ 360 := by
  obtain ⟨w, h12, _⟩ := valid_wf h.val
  have hm := h.nodes _ (rd_mem h0 h1)
  have := attrsS_len w (fun x hx => h.few.nattr x hx) t.fNodes.length _ hm.2
  omega
theorem attrP_yes {t : Types} {g : Graph} {n a : Int} (c : 0 ≤ n ∧ n < (g.fNodes.length : Int)) (d : 0 ≤ a ∧ a < ((attrsS t.fNodes t.fNodes.length (rd g.fNodes n)).length : Int)) :
    attrP t g n a = (rd (attrsS t.fNodes t.fNodes.length (rd g.fNodes n)) a, true) := by unfold attrP; rw [if_pos c, if_pos d]
theorem attrP_no {t : Types} {g : Graph} {n a : Int} (c : 0 ≤ n ∧ n < (g.fNodes.length : Int)) (d : ¬ (0 ≤ a ∧ a < ((attrsS t.fNodes t.fNodes.length (rd g.fNodes n)).length : Int))) : attrP t g n a = noAttr := by unfold attrP; rw [if_pos c, if_neg d]
theorem attrP_out {t : Types} {g : Graph} {n a : Int} (c : ¬ (0 ≤ n ∧ n < (g.fNodes.length : Int))) : attrP t g n a = noAttr := if_neg c
theorem attr_eq {k : Nat} (hk : 1000 ≤ k) {t : Types} {p : Pattern} (h : Over t p.fGraph) (s : Slot) : attribute_attr k t p s = some (attrP t p.fGraph s.fNode s.fAttr) := by
  have hn := h.len
  unfold attribute_attr
  rw [gd (inR_of (by omega)), within_eq, Option.bind_some]
  by_cases c : 0 ≤ s.fNode ∧ s.fNode < (p.fGraph.fNodes.length : Int)
  · have hm := h.nodes _ (rd_mem c.1 c.2)
    have hl := h.attrs c.1 c.2
    rw [decide_eq_true (show s.fNode ≥ 0 by omega), decide_eq_true (show s.fNode ≤ (p.fGraph.fNodes.length : Int) - 1 by omega), Bool.and_true, Bool.not_true, cond_false, gd c, Attrs_eq hk h.few h.val hm.1 hm.2, Option.bind_some]
    dsimp only
    rw [gd (inR_of (by omega)), within_eq, Option.bind_some]
    by_cases d : 0 ≤ s.fAttr ∧ s.fAttr < ((attrsS t.fNodes t.fNodes.length (rd p.fGraph.fNodes s.fNode)).length : Int)
    · rw [attrP_yes c d, decide_eq_true (show s.fAttr ≥ 0 by omega), decide_eq_true (show s.fAttr ≤ ((attrsS t.fNodes t.fNodes.length (rd p.fGraph.fNodes s.fNode)).length : Int) - 1 by omega), Bool.and_true, Bool.not_true, cond_false, gd d]
    · rw [attrP_no c d]
      have : (decide (s.fAttr ≥ 0) && decide (s.fAttr ≤ ((attrsS t.fNodes t.fNodes.length (rd p.fGraph.fNodes s.fNode)).length : Int) - 1)) = false := by
        rw [Bool.and_eq_false_iff, decide_eq_false_iff_not, decide_eq_false_iff_not]; omega
      rw [this, Bool.not_false, cond_true]; rfl
  · rw [attrP_out c]
    have : (decide (s.fNode ≥ 0) && decide (s.fNode ≤ (p.fGraph.fNodes.length : Int) - 1)) = false := by
      rw [Bool.and_eq_false_iff, decide_eq_false_iff_not, decide_eq_false_iff_not]; omega
    rw [this, Bool.not_false, cond_true]; rfl
theorem ref_attr_eq {k : Nat} (hk : 1000 ≤ k) {t : Types} {p : Pattern} (h : Over t p.fGraph) (n a : Int) : ref21_attr k t p n a = some (attrP t p.fGraph n a) := by
  unfold ref21_attr jn; dsimp only
  by_cases c : 0 ≤ n ∧ n < (p.fGraph.fNodes.length : Int)
  · have hm := h.nodes _ (rd_mem c.1 c.2)
    rw [decide_eq_false (show ¬ n < 0 by omega), decide_eq_false (show ¬ n ≥ (p.fGraph.fNodes.length : Int) by omega), cond_false, cond_false, gd c, ref04_Attrs_eq hk h.few h.val hm.1 hm.2, Option.bind_some]
    dsimp only
    rw [bne_self_eq_false, cond_false]
    by_cases d : 0 ≤ a ∧ a < ((attrsS t.fNodes t.fNodes.length (rd p.fGraph.fNodes n)).length : Int)
    · rw [attrP_yes c d, decide_eq_false (show ¬ a < 0 by omega), decide_eq_false (show ¬ a ≥ ((attrsS t.fNodes t.fNodes.length (rd p.fGraph.fNodes n)).length : Int) by omega), cond_false, cond_false, gd d]
    · rw [attrP_no c d]
      by_cases e : a < 0
      · rw [decide_eq_true e, cond_true, cond_true]; rfl
      · rw [decide_eq_false e, decide_eq_true (show a ≥ ((attrsS t.fNodes t.fNodes.length (rd p.fGraph.fNodes n)).length : Int) by omega), cond_false, cond_true]; rfl
  · rw [attrP_out c]
    by_cases e : n < 0
    · rw [decide_eq_true e, cond_true, cond_true]; rfl
    · rw [decide_eq_false e, decide_eq_true (show n ≥ (p.fGraph.fNodes.length : Int) by omega), cond_false, cond_true]; rfl

/-! ### Tests -/
def termB (n : Int) (x : Term) : Bool := decide (x.fVar ≥ -1) && (decide (x.fVar < n) && (decide (x.fAdd ≥ -1000000) && decide (x.fAdd ≤ 1000000)))
theorem term_eqB {k : Nat} (n : Int) (x : Term) : difference_term k n x = some (termB n x) := by
  unfold difference_term termB jn; dsimp only
  cases decide (x.fVar ≥ -1) <;> cases decide (x.fVar < n) <;> cases decide (x.fAdd ≥ -1000000) <;> rfl
theorem ref_term_eq {k : Nat} (n : Int) (x : Term) : ref03_within k n x = some (bif termB n x then 0 else 6) := by
  unfold ref03_within termB jn; dsimp only
  rw [show decide (x.fVar < -1) = !decide (x.fVar ≥ -1) by rw [Bool.eq_iff_iff]; simp <;> omega, show decide (x.fVar ≥ n) = !decide (x.fVar < n) by rw [Bool.eq_iff_iff]; simp,
    show decide (x.fAdd < -1000000) = !decide (x.fAdd ≥ -1000000) by rw [Bool.eq_iff_iff]; simp, show decide (x.fAdd > 1000000) = !decide (x.fAdd ≤ 1000000) by rw [Bool.eq_iff_iff]; simp]
  cases decide (x.fVar ≥ -1) <;> cases decide (x.fVar < n) <;> cases decide (x.fAdd ≥ -1000000) <;> cases decide (x.fAdd ≤ 1000000) <;> rfl
def testE (n : Int) (x : Test) : Int := bif (x.fKind != 1) && (x.fKind != 2) then 1 else bif termB n x.fLeft && termB n x.fRight then 0 else 6
theorem one_eq {k : Nat} (n : Int) (x : Test) : difference_one k n x = some (testE n x) := by
  unfold difference_one testE jn; dsimp only
  rw [term_eqB, term_eqB, Option.bind_some, Option.bind_some]
  cases (x.fKind != 1) <;> cases (x.fKind != 2) <;> cases termB n x.fLeft <;> cases termB n x.fRight <;> rfl
theorem ref_one_eq {k : Nat} (n : Int) (x : Test) : ref03_One k n x = some (testE n x) := by
  unfold ref03_One testE jn; dsimp only
  rw [ref_term_eq, ref_term_eq, Option.bind_some, Option.bind_some]
  cases (x.fKind != 1) <;> cases (x.fKind != 2) <;> cases termB n x.fLeft <;> cases termB n x.fRight <;> rfl
def testsE (n : Int) (l : List Test) : Int :=
  bif decide (n < 0) || decide (n > 12) then 6 else bif decide ((l.length : Int) > 40) then 3 else scan (fun i => testE n (rd l (i : Int))) 0 l.length
theorem tests_eq {k : Nat} (hk : 200 ≤ k) (n : Int) (l : List Test) : difference_Valid k n l = some (testsE n l) := by
  unfold difference_Valid testsE jn; dsimp only
  have key : decide ((l.length : Int) > 40) = false → loop1 k (difference_Valid.b0 k n l) 0 = some (scan (fun i => testE n (rd l (i : Int))) 0 l.length) := fun h => by
    have h' : l.length ≤ 40 := by have := of_decide_eq_false h; omega
    refine loop1_eq (fun i => scan (fun i => testE n (rd l (i : Int))) i l.length) l.length (fun rec => ?_) (fun i hi rec ih => ?_) (k := k) (i := 0) (Nat.zero_le _) (by omega)
    · rw [difference_Valid.b0, decide_eq_false (show ¬ (l.length : Int) < (l.length : Int) by omega), cond_false, scan_end]
    · rw [difference_Valid.b0, decide_eq_true (show (i : Int) < (l.length : Int) by omega), cond_true, gd ⟨by omega, by omega⟩, one_eq, Option.bind_some, gd (inR_nat (n := i) (by omega)), ih, scan_step hi]
      cases (testE n (rd l (i : Int)) != 0) <;> rfl
  cases decide (n < 0) <;> cases decide (n > 12) <;> first | rfl | (cases h : decide ((l.length : Int) > 40) <;> first | rfl | exact key h)
theorem ref_tests_eq {k : Nat} (hk : 200 ≤ k) (n : Int) (l : List Test) : ref03_Valid k n l = some (testsE n l) := by
  unfold ref03_Valid testsE jn; dsimp only
  have key : decide ((l.length : Int) > 40) = false → loop1 k (ref03_Valid.b0 k n l) 0 = some (scan (fun i => testE n (rd l (i : Int))) 0 l.length) := fun h => by
    have h' : l.length ≤ 40 := by have := of_decide_eq_false h; omega
    refine loop1_eq (fun i => scan (fun i => testE n (rd l (i : Int))) i l.length) l.length (fun rec => ?_) (fun i hi rec ih => ?_) (k := k) (i := 0) (Nat.zero_le _) (by omega)
    · rw [ref03_Valid.b0, decide_eq_false (show ¬ (l.length : Int) < (l.length : Int) by omega), cond_false, scan_end]
    · rw [ref03_Valid.b0, decide_eq_true (show (i : Int) < (l.length : Int) by omega), cond_true, gd ⟨by omega, by omega⟩, ref_one_eq, Option.bind_some, gd (inR_nat (n := i) (by omega)), ih, scan_step hi]
      cases (testE n (rd l (i : Int)) != 0) <;> rfl
  cases decide (n < 0) <;> cases decide (n > 12) <;> first | rfl | (cases h : decide ((l.length : Int) > 40) <;> first | rfl | exact key h)
end Go.Proofs.YtcgdfjpeboiioaaGreat

namespace Go.Proofs.YtcgdfjpeboiioaaGreat
open Go Go.Abs

theorem Contains_bool {k : Nat} (l : List Bool) (a : Bool) (hk : l.length < k) (hl : l.length ≤ 1000000) :
    slices_Contains_bool k l a = some (anyN (fun j => a == rd l (j : Int)) 0 l.length) := ix_contains l (fun x => some (a == x)) _ k hk hl (fun _ _ => rfl)
def slotBad (t : Types) (p : Pattern) (i : Nat) : Bool :=
  !(attrP t p.fGraph (rd p.fSlots (i : Int)).fNode (rd p.fSlots (i : Int)).fAttr).2 || (!(decide ((rd p.fSlots (i : Int)).fTerm.fVar ≥ -1) && decide ((rd p.fSlots (i : Int)).fTerm.fVar < p.fVars)) || !(decide ((rd p.fSlots (i : Int)).fTerm.fAdd ≥ -1000000) && decide ((rd p.fSlots (i : Int)).fTerm.fAdd ≤ 1000000)))
def hasVar (p : Pattern) (i : Nat) (v : Nat) : Bool := anyN (fun j => (rd p.fSlots (j : Int)).fTerm.fVar == (v : Int)) i p.fSlots.length
def unusedE (p : Pattern) (v : Nat) : Int := bif anyN (fun v => !hasVar p 0 v) v p.fVars.toNat then 9 else 0
def restE (p : Pattern) : Int := bif testsE p.fVars p.fTests != 0 then testsE p.fVars p.fTests else unusedE p 0
def slotsE (t : Types) (p : Pattern) (i : Nat) : Int := bif anyN (slotBad t p) i p.fSlots.length then 6 else restE p
def patE (t : Types) (p : Pattern) : Int :=
  bif validS t != 0 then validS t else bif graphErr p.fGraph != 0 then graphErr p.fGraph else bif !typedB t p.fGraph then 13
  else bif decide (p.fVars < 0) || decide (p.fVars > 12) then 6 else bif decide ((p.fSlots.length : Int) > 10) || decide ((p.fTests.length : Int) > 10) then 3 else slotsE t p 0
/-- A pattern that is small enough to be asked about. -/
structure FewP (p : Pattern) : Prop where
  graph : FewG p.fGraph
  slots : p.fSlots.length ≤ 15
  tests : p.fTests.length ≤ 15
theorem over_of {t : Types} {g : Graph} (ht : FewT t) (hv : validS t = 0) (hg : GoodG g) (hy : typedB t g = true) : Over t g where
  few := ht
  val := hv
  nodes x hx := by
    obtain ⟨j, hj, rfl⟩ := List.mem_iff_getElem.1 hx
    have e : rd g.fNodes (j : Int) = g.fNodes[j] := by simp [rd, List.getD, List.getElem?_eq_getElem hj]
    rw [← e]; exact ⟨(hg.kind j hj).1, typedB_node hy hj⟩
  len := by have := hg.nodes; omega
theorem occurs_eq {k : Nat} (hk : 200 ≤ k) {p : Pattern} (hs : p.fSlots.length ≤ 15) (v : Nat) : ref21_occurs k p (v : Int) = some (hasVar p 0 v) := by
  refine loop1_eq (fun i => hasVar p i v) p.fSlots.length (fun rec => ?_) (fun i hi rec ih => ?_) (k := k) (i := 0) (Nat.zero_le _) (by omega)
  · rw [ref21_occurs.b0, decide_eq_false (show ¬ (p.fSlots.length : Int) < (p.fSlots.length : Int) by omega), cond_false, hasVar, anyN_end]
  · unfold hasVar at ih ⊢
    rw [ref21_occurs.b0, decide_eq_true (show (i : Int) < (p.fSlots.length : Int) by omega), cond_true, gd ⟨by omega, by omega⟩, gd (inR_nat (n := i) (by omega)), ih, anyN_step hi]
    cases ((rd p.fSlots (i : Int)).fTerm.fVar == (v : Int)) <;> rfl
theorem unused_eq {k : Nat} (hk : 200 ≤ k) {p : Pattern} (hs : p.fSlots.length ≤ 15) (h0 : 0 ≤ p.fVars) (h1 : p.fVars ≤ 12) : loop1 k (ref21_Valid.b1 k p) 0 = some (unusedE p 0) := by
  refine loop1_eq (fun i => unusedE p i) p.fVars.toNat (fun rec => ?_) (fun i hi rec ih => ?_) (k := k) (i := 0) (Nat.zero_le _) (by omega)
  · rw [ref21_Valid.b1, decide_eq_false (by omega), cond_false, unusedE, anyN_end]; rfl
  · unfold unusedE at ih ⊢
    rw [ref21_Valid.b1, decide_eq_true (show (i : Int) < p.fVars by omega), cond_true, occurs_eq hk hs, Option.bind_some, gd (inR_nat (n := i) (by omega)), ih, anyN_step hi]
    cases hasVar p 0 i <;> rfl
theorem ref_valid_eq {k : Nat} (hk : 1000 ≤ k) {t : Types} {p : Pattern} (ht : FewT t) (hp : FewP p) : ref21_Valid k t p = some (patE t p) := by
  have hs := hp.slots
  obtain ⟨r, e, hr⟩ := ref04_Valid_out (k := k) (by omega) ht
  unfold ref21_Valid patE jn; dsimp only
  rw [e, Option.bind_some, hr]
  cases hv : (validS t != 0) with
  | true => rfl
  | false =>
    rw [cond_false, cond_false, ref05_Valid_eq (by omega) hp.graph, Option.bind_some]
    cases hg : (graphErr p.fGraph != 0) with
    | true => rfl
    | false =>
      have hg' : graphErr p.fGraph = 0 := by simpa using hg
      have good := graphErr_good hg'
      rw [cond_false, cond_false, ref17_Typed_eq (by omega) t good, Option.bind_some]
      cases hy : typedB t p.fGraph with
      | false => rfl
      | true =>
        have ov := over_of ht (by simpa using hv) good hy
        rw [Bool.not_true, cond_false, cond_false]
        by_cases c0 : p.fVars < 0
        · rw [decide_eq_true c0]; rfl
        · by_cases c1 : p.fVars > 12
          · rw [decide_eq_false c0, decide_eq_true c1]; rfl
          · rw [decide_eq_false c0, decide_eq_false c1, cond_false, cond_false, Bool.or_false, cond_false]
            by_cases c2 : (p.fSlots.length : Int) > 10
            · rw [decide_eq_true c2]; rfl
            · by_cases c3 : (p.fTests.length : Int) > 10
              · rw [decide_eq_false c2, decide_eq_true c3]; rfl
              · rw [decide_eq_false c2, decide_eq_false c3, cond_false, cond_false, Bool.or_false, cond_false]
                refine loop1_eq (fun i => slotsE t p i) p.fSlots.length (fun rec => ?_) (fun i hi rec ih => ?_) (k := k) (i := 0) (Nat.zero_le _) (by omega)
                · rw [ref21_Valid.b0, decide_eq_false (show ¬ (p.fSlots.length : Int) < (p.fSlots.length : Int) by omega), cond_false, ref_tests_eq (by omega), Option.bind_some, unused_eq (by omega) hs (by omega) (by omega), slotsE, anyN_end, restE]
                  cases (testsE p.fVars p.fTests != 0) <;> rfl
                · unfold slotsE at ih ⊢
                  rw [ref21_Valid.b0]; unfold jn; dsimp only
                  rw [decide_eq_true (show (i : Int) < (p.fSlots.length : Int) by omega), cond_true, gd ⟨by omega, by omega⟩, ref_attr_eq hk ov, Option.bind_some, gd (inR_nat (n := i) (by omega)), ih, anyN_step hi, slotBad]
                  unfold ref21_bounded jn; dsimp only
                  rw [show decide ((rd p.fSlots (i : Int)).fTerm.fVar < -1) = !decide ((rd p.fSlots (i : Int)).fTerm.fVar ≥ -1) by rw [Bool.eq_iff_iff]; simp <;> omega, show decide ((rd p.fSlots (i : Int)).fTerm.fVar ≥ p.fVars) = !decide ((rd p.fSlots (i : Int)).fTerm.fVar < p.fVars) by rw [Bool.eq_iff_iff]; simp]
                  cases (attrP t p.fGraph (rd p.fSlots (i : Int)).fNode (rd p.fSlots (i : Int)).fAttr).2 <;> cases decide ((rd p.fSlots (i : Int)).fTerm.fVar ≥ -1) <;> cases decide ((rd p.fSlots (i : Int)).fTerm.fVar < p.fVars) <;> cases decide ((rd p.fSlots (i : Int)).fTerm.fAdd ≥ -1000000) <;> cases decide ((rd p.fSlots (i : Int)).fTerm.fAdd ≤ 1000000) <;> rfl
end Go.Proofs.YtcgdfjpeboiioaaGreat

namespace Go.Proofs.YtcgdfjpeboiioaaGreat
open Go Go.Abs

/-- What has been seen of the variables behind 'i' slots. -/
structure Seen (p : Pattern) (s : List Bool) (i : Nat) : Prop where
  len : (s.length : Int) = p.fVars
  var : ∀ v : Nat, v < s.length → (rd s (v : Int) = true ↔ ∃ j, j < i ∧ (rd p.fSlots (j : Int)).fTerm.fVar = (v : Int))
theorem rd_setB {s : List Bool} {a : Nat} (ha : a < s.length) (v : Nat) : rd (s.set a true) (v : Int) = (if v = a then true else rd s (v : Int)) := by
  unfold rd
  rw [Int.toNat_natCast, List.getD_eq_getElem?_getD, List.getD_eq_getElem?_getD, List.getElem?_set]
  by_cases h : v = a
  · subst h; simp [ha]
  · rw [if_neg (fun e => h e.symm), if_neg h]
theorem Seen.put {p : Pattern} {s : List Bool} {i : Nat} (h : Seen p s i) (h0 : 0 ≤ (rd p.fSlots (i : Int)).fTerm.fVar) (h1 : (rd p.fSlots (i : Int)).fTerm.fVar < (s.length : Int)) : Seen p (s.set ((rd p.fSlots (i : Int)).fTerm.fVar).toNat true) (i + 1) := by
  refine ⟨by rw [List.length_set]; exact h.len, fun v hv => ?_⟩
  rw [List.length_set] at hv
  rw [rd_setB (by omega)]
  by_cases c : v = ((rd p.fSlots (i : Int)).fTerm.fVar).toNat
  · rw [if_pos c]
    exact ⟨fun _ => ⟨i, by omega, by omega⟩, fun _ => rfl⟩
  · rw [if_neg c, h.var v hv]
    constructor
    · rintro ⟨j, hj, e⟩; exact ⟨j, by omega, e⟩
    · rintro ⟨j, hj, e⟩
      rcases Nat.lt_succ_iff_lt_or_eq.1 hj with hj | rfl
      · exact ⟨j, hj, e⟩
      · exact absurd e (by omega)
theorem Seen.skip {p : Pattern} {s : List Bool} {i : Nat} (h : Seen p s i) (h0 : (rd p.fSlots (i : Int)).fTerm.fVar < 0) : Seen p s (i + 1) := by
  refine ⟨h.len, fun v hv => ?_⟩
  rw [h.var v hv]
  constructor
  · rintro ⟨j, hj, e⟩; exact ⟨j, by omega, e⟩
  · rintro ⟨j, hj, e⟩
    rcases Nat.lt_succ_iff_lt_or_eq.1 hj with hj | rfl
    · exact ⟨j, hj, e⟩
    · exact absurd e (by omega)
theorem Seen.all {p : Pattern} {s : List Bool} (h : Seen p s p.fSlots.length) : anyN (fun j => false == rd s (j : Int)) 0 s.length = anyN (fun v => !hasVar p 0 v) 0 p.fVars.toNat := by
  have hl := h.len
  rw [show p.fVars.toNat = s.length by omega]
  rw [Bool.eq_iff_iff, anyN_iff, anyN_iff]
  constructor
  · rintro ⟨j, _, hj, e⟩
    refine ⟨j, Nat.zero_le _, hj, ?_⟩
    have e1 : rd s (j : Int) = false := by simpa using e
    rw [Bool.not_eq_true']
    cases hh : hasVar p 0 j with
    | false => rfl
    | true =>
      obtain ⟨q, _, hq, hv⟩ := anyN_iff.1 hh
      have := (h.var j hj).2 ⟨q, hq, by simpa using hv⟩
      rw [e1] at this; cases this
  · rintro ⟨j, _, hj, e⟩
    refine ⟨j, Nat.zero_le _, hj, ?_⟩
    rw [Bool.not_eq_true'] at e
    cases hr : rd s (j : Int) with
    | false => rfl
    | true =>
      obtain ⟨q, hq, hv⟩ := (h.var j hj).1 hr
      have : hasVar p 0 j = true := anyN_iff.2 ⟨q, Nat.zero_le _, hq, by simpa using hv⟩
      rw [e] at this; cases this
theorem valid_eq {k : Nat} (hk : 1000 ≤ k) {t : Types} {p : Pattern} (ht : FewT t) (hp : FewP p) : attribute_Valid k t p = some (patE t p) := by
  have hs := hp.slots
  have h1 := hp.graph.nodes; have h2 := hp.graph.edges
  obtain ⟨r, e, hr⟩ := types_Valid_out (k := k) (by omega) ht
  unfold attribute_Valid patE jn; dsimp only
  rw [e, Option.bind_some, hr]
  cases hv : (validS t != 0) with
  | true => rfl
  | false =>
    rw [cond_false, cond_false, graph_Valid_eq (by omega) hp.graph, Option.bind_some]
    cases hg : (graphErr p.fGraph != 0) with
    | true => rfl
    | false =>
      have hg' : graphErr p.fGraph = 0 := by simpa using hg
      have good := graphErr_good hg'
      have h3 := ContainsFunc_int (k := k) p.fGraph.fNodes (fun x => attribute_Valid_1 k x t) (fun j => decide (rd p.fGraph.fNodes (j : Int) ≥ (t.fNodes.length : Int))) (by omega) (by omega) (fun j _ => rfl)
      have h4 := ContainsFunc_Edge (k := k) p.fGraph.fEdges (fun x => attribute_Valid_2 k x t) (fun j => decide ((rd p.fGraph.fEdges (j : Int)).fType ≥ (t.fEdges.length : Int))) (by omega) (by omega) (fun j _ => rfl)
      rw [cond_false, cond_false, h3, Option.bind_some, h4, Option.bind_some]
      cases hy : typedB t p.fGraph with
      | false =>
        unfold typedB at hy
        cases q1 : anyN (fun j => decide (rd p.fGraph.fNodes (j : Int) ≥ (t.fNodes.length : Int))) 0 p.fGraph.fNodes.length with
        | true => rfl
        | false =>
          rw [q1, Bool.not_false, Bool.true_and, Bool.not_eq_false'] at hy
          rw [hy]; rfl
      | true =>
        have ov := over_of ht (by simpa using hv) good hy
        unfold typedB at hy
        rw [Bool.and_eq_true, Bool.not_eq_true', Bool.not_eq_true'] at hy
        rw [hy.1, hy.2, cond_false, cond_false, within_eq, Option.bind_some, Bool.not_true, cond_false]
        by_cases c0 : p.fVars < 0
        · rw [decide_eq_true c0, decide_eq_false (show ¬ p.fVars ≥ 0 by omega)]; rfl
        · by_cases c1 : p.fVars > 12
          · rw [decide_eq_false c0, decide_eq_true c1, decide_eq_true (show p.fVars ≥ 0 by omega), decide_eq_false (show ¬ p.fVars ≤ 12 by omega)]; rfl
          · rw [decide_eq_false c0, decide_eq_false c1, decide_eq_true (show p.fVars ≥ 0 by omega), decide_eq_true (show p.fVars ≤ 12 by omega), Bool.and_true, Bool.not_true, cond_false, Bool.or_false, cond_false]
            by_cases c2 : (p.fSlots.length : Int) > 10
            · rw [decide_eq_true c2]; rfl
            · by_cases c3 : (p.fTests.length : Int) > 10
              · rw [decide_eq_false c2, decide_eq_true c3]; rfl
              · rw [decide_eq_false c2, decide_eq_false c3, cond_false, cond_false, Bool.or_false, cond_false, gd (show (0 : Int) ≤ p.fVars ∧ p.fVars ≤ (lim : Int) by unfold lim; omega)]
                refine Out.eq (loop2_out (S := List Bool) (P := fun _ i r => r = slotsE t p i) (I := fun s i => Seen p s i) p.fSlots.length (fun s hs' rec => ?_) (fun s i hi hs' rec ih => ?_) k 0 _ (Nat.zero_le _) (by omega) ⟨by rw [List.length_replicate]; omega, fun v hv => ⟨fun e => ?_, fun ⟨j, hj, _⟩ => by omega⟩⟩)
                · have hl := hs'.len
                  rw [attribute_Valid.b0, decide_eq_false (show ¬ (p.fSlots.length : Int) < (p.fSlots.length : Int) by omega), cond_false, tests_eq (by omega), Option.bind_some, Contains_bool (k := k) s false (by omega) (by omega), Option.bind_some, hs'.all, slotsE, anyN_end, restE]
                  unfold unusedE
                  cases (testsE p.fVars p.fTests != 0) <;> cases anyN (fun v => !hasVar p 0 v) 0 p.fVars.toNat <;> exact ⟨_, rfl, rfl⟩
                · have hl := hs'.len
                  have hi' : inR ((i : Int) + 1) := inR_nat (n := i) (by omega)
                  unfold slotsE at ih ⊢
                  rw [attribute_Valid.b0]; unfold jn; dsimp only
                  rw [decide_eq_true (show (i : Int) < (p.fSlots.length : Int) by omega), cond_true, gd ⟨by omega, by omega⟩, attr_eq hk ov, Option.bind_some, gd (inR_of (x := p.fVars - 1) (by omega)), within_eq, Option.bind_some, within_eq, Option.bind_some, anyN_step hi, slotBad]
                  rw [show decide ((rd p.fSlots (i : Int)).fTerm.fVar ≤ p.fVars - 1) = decide ((rd p.fSlots (i : Int)).fTerm.fVar < p.fVars) by rw [Bool.eq_iff_iff]; simp; omega]
                  cases hA : (attrP t p.fGraph (rd p.fSlots (i : Int)).fNode (rd p.fSlots (i : Int)).fAttr).2 with
                  | false => exact ⟨6, rfl, rfl⟩
                  | true =>
                    rw [Bool.not_true, cond_false, Bool.false_or]
                    cases hB : (decide ((rd p.fSlots (i : Int)).fTerm.fVar ≥ -1) && decide ((rd p.fSlots (i : Int)).fTerm.fVar < p.fVars)) with
                    | false => exact ⟨6, rfl, rfl⟩
                    | true =>
                      rw [Bool.not_true, cond_false, Bool.false_or]
                      rw [Bool.and_eq_true, decide_eq_true_eq, decide_eq_true_eq] at hB
                      cases hC : (decide ((rd p.fSlots (i : Int)).fTerm.fAdd ≥ -1000000) && decide ((rd p.fSlots (i : Int)).fTerm.fAdd ≤ 1000000)) with
                      | false => exact ⟨6, rfl, rfl⟩
                      | true =>
                        rw [Bool.not_true, cond_false, Bool.false_or]
                        by_cases d : (rd p.fSlots (i : Int)).fTerm.fVar ≥ 0
                        · rw [decide_eq_true d, cond_true, gd ⟨by omega, by omega⟩, gd hi']
                          exact ih _ (hs'.put (by omega) (by omega))
                        · rw [decide_eq_false d, cond_false, gd hi']
                          exact ih _ (hs'.skip (by omega))
                · rw [List.length_replicate] at hv
                  simp [rd, List.getD, List.getElem?_replicate, hv] at e
end Go.Proofs.YtcgdfjpeboiioaaGreat
