/- The values of a match: both readings answer the same. -/
import Derived.Test.YtcgdfjpeboiioaaGreatS17
namespace Go.Proofs.YtcgdfjpeboiioaaGreat
open Go Go.Abs

theorem loop1_two {R : Type} {b b' : (Int → Option R) → Int → Option R} {Q : R → Prop} (n : Nat) (hend : ∀ rec rec', ∃ r, b rec (n : Int) = some r ∧ b' rec' (n : Int) = some r ∧ Q r)
    (hstep : ∀ i, i < n → ∀ rec rec' : Int → Option R, (∃ r, rec ((i : Int) + 1) = some r ∧ rec' ((i : Int) + 1) = some r ∧ Q r) → ∃ r, b rec (i : Int) = some r ∧ b' rec' (i : Int) = some r ∧ Q r) :
    ∀ k i : Nat, i ≤ n → n < k + i → ∃ r, loop1 k b (i : Int) = some r ∧ loop1 k b' (i : Int) = some r ∧ Q r
  | 0, i, h, hk => by omega
  | k + 1, i, h, hk => by
    rcases Nat.lt_or_ge i n with hl | hl
    · refine hstep i hl _ _ ?_
      have := loop1_two n hend hstep k (i + 1) hl (by omega)
      simpa using this
    · have : i = n := by omega
      subst this
      exact hend _ _
theorem loop3_two {S T R : Type} {b b' : (S → T → Int → Option R) → S → T → Int → Option R} {I : S → T → Nat → Prop} {Q : R → Prop} (n : Nat) (hend : ∀ s u, I s u n → ∀ rec rec', ∃ r, b rec s u (n : Int) = some r ∧ b' rec' s u (n : Int) = some r ∧ Q r)
    (hstep : ∀ s u i, i < n → I s u i → ∀ rec rec' : S → T → Int → Option R, (∀ s' u', I s' u' (i + 1) → ∃ r, rec s' u' ((i : Int) + 1) = some r ∧ rec' s' u' ((i : Int) + 1) = some r ∧ Q r) → ∃ r, b rec s u (i : Int) = some r ∧ b' rec' s u (i : Int) = some r ∧ Q r) :
    ∀ (k i : Nat) (s : S) (u : T), i ≤ n → n < k + i → I s u i → ∃ r, loop3 k b s u (i : Int) = some r ∧ loop3 k b' s u (i : Int) = some r ∧ Q r
  | 0, i, s, u, h, hk, _ => by omega
  | k + 1, i, s, u, h, hk, hi => by
    rcases Nat.lt_or_ge i n with hl | hl
    · refine hstep s u i hl hi _ _ fun s' u' hI => ?_
      have := loop3_two n hend hstep k (i + 1) s' u' hl (by omega) hI
      simpa using this
    · have : i = n := by omega
      subst this
      exact hend s u hi _ _
def Sm (x : Int) : Prop := -1000000 ≤ x ∧ x ≤ 1000000
structure SlotOk (p : Pattern) (h : Host) (m : Morphism) (i : Nat) : Prop where
  n0 : 0 ≤ (rd p.fSlots (i : Int)).fNode
  n1 : (rd p.fSlots (i : Int)).fNode < (m.fNodes.length : Int)
  m0 : 0 ≤ rd m.fNodes (rd p.fSlots (i : Int)).fNode
  m1 : rd m.fNodes (rd p.fSlots (i : Int)).fNode < (h.fValues.length : Int)
  a0 : 0 ≤ (rd p.fSlots (i : Int)).fAttr
  a1 : (rd p.fSlots (i : Int)).fAttr < ((rd h.fValues (rd m.fNodes (rd p.fSlots (i : Int)).fNode)).length : Int)
  v1 : (rd p.fSlots (i : Int)).fTerm.fVar < p.fVars
  add : Sm (rd p.fSlots (i : Int)).fTerm.fAdd
  val : Sm (rd (rd h.fValues (rd m.fNodes (rd p.fSlots (i : Int)).fNode)) (rd p.fSlots (i : Int)).fAttr)
structure SolveOk (p : Pattern) (h : Host) (m : Morphism) : Prop where
  v0 : 0 ≤ p.fVars
  v1 : p.fVars ≤ 12
  slots : p.fSlots.length ≤ 15
  tests : p.fTests.length ≤ 40
  slot : ∀ i, i < p.fSlots.length → SlotOk p h m i
  left : ∀ i, i < p.fTests.length → Sm (rd p.fTests (i : Int)).fLeft.fAdd
  right : ∀ i, i < p.fTests.length → Sm (rd p.fTests (i : Int)).fRight.fAdd
theorem Sm.mid {x : Int} (h : Sm x) : Mid x := ⟨by have := h.1; omega, by have := h.2; omega⟩
theorem set_all {α : Type} {P : α → Prop} {l : List α} {i : Nat} {a : α} (h : ∀ x ∈ l, P x) (ha : P a) : ∀ x ∈ l.set i a, P x := fun x hx => by
  rcases List.mem_or_eq_of_mem_set hx with h' | rfl
  · exact h x h'
  · exact ha
theorem value_two {k : Nat} (x : Term) (vs : List Int) (hv : ∀ v ∈ vs, Mid v) (h1 : x.fVar < (vs.length : Int)) (ha : Sm x.fAdd) : ∃ r, attribute_value k x vs = some r ∧ ref21_value k x vs = some r := by
  have a1 := ha.1; have a2 := ha.2
  unfold attribute_value ref21_value
  by_cases c : x.fVar < 0
  · rw [decide_eq_true c]; exact ⟨_, rfl, rfl⟩
  · have m := hv _ (rd_mem (l := vs) (x := x.fVar) (by omega) h1)
    have m1 := m.1; have m2 := m.2
    rw [decide_eq_false c, cond_false, gd ⟨by omega, h1⟩, gd (inR_of (by omega))]; exact ⟨_, rfl, rfl⟩
theorem tests_two {k : Nat} (hk : 200 ≤ k) {p : Pattern} {h : Host} {m : Morphism} (ok : SolveOk p h m) (vs : List Int) (hv : ∀ v ∈ vs, Mid v) (hvl : vs.length ≤ 12) : ∃ r, loop1 k (attribute_solve.b1 k p vs) 0 = some r ∧ loop1 k (ref21_Values.b1 k p vs) 0 = some r ∧ r.1.length ≤ 12 := by
  have ht := ok.tests
  refine loop1_two (Q := fun r : List Int × Int => r.1.length ≤ 12) p.fTests.length (fun rec rec' => ?_) (fun i hi rec rec' ih => ?_) k 0 (Nat.zero_le _) (by omega)
  · rw [attribute_solve.b1, ref21_Values.b1, decide_eq_false (show ¬ (p.fTests.length : Int) < (p.fTests.length : Int) by omega), cond_false, cond_false]; exact ⟨_, rfl, rfl, hvl⟩
  · obtain ⟨b, e1, e2⟩ := holds_eq hk (rd p.fTests (i : Int)) vs hv (ok.left i hi).mid (ok.right i hi).mid
    have g1 : (0 : Int) ≤ (i : Int) ∧ (i : Int) < (p.fTests.length : Int) := ⟨by omega, by omega⟩
    have g2 : inR ((i : Int) + 1) := inR_nat (n := i) (by omega)
    rw [attribute_solve.b1, ref21_Values.b1, decide_eq_true (show (i : Int) < (p.fTests.length : Int) by omega), cond_true, cond_true, gd g1, gd g1, e1, e2, Option.bind_some, Option.bind_some, gd g2, gd g2]
    cases b with
    | false => exact ⟨_, rfl, rfl, Nat.zero_le _⟩
    | true => exact ih
theorem solve_two {k : Nat} (hk : 1000 ≤ k) {p : Pattern} {h : Host} {m : Morphism} (ok : SolveOk p h m) : ∃ r, attribute_solve k p h m = some r ∧ ref21_Values k p h m = some r ∧ r.1.length ≤ 12 := by
  have v0 := ok.v0; have v1 := ok.v1; have hs := ok.slots
  have gl : (0 : Int) ≤ p.fVars ∧ p.fVars ≤ (lim : Int) := by unfold lim; omega
  unfold attribute_solve ref21_Values jn; dsimp only
  rw [gd gl, gd gl, gd gl, gd gl]
  refine loop3_two (Q := fun r : List Int × Int => r.1.length ≤ 12) (I := fun s u _ => (s.length : Int) = p.fVars ∧ (u.length : Int) = p.fVars ∧ ∀ v ∈ s, Mid v) p.fSlots.length (fun s u hI rec rec' => ?_) (fun s u i hi hI rec rec' ih => ?_) k 0 _ _ (Nat.zero_le _) (by omega)
    ⟨by rw [List.length_replicate]; omega, by rw [List.length_replicate]; omega, fun v hv => by rw [List.eq_of_mem_replicate hv]; exact ⟨by omega, by omega⟩⟩
  · rw [attribute_solve.b0, ref21_Values.b0, decide_eq_false (show ¬ (p.fSlots.length : Int) < (p.fSlots.length : Int) by omega), cond_false, cond_false]
    exact tests_two (by omega) ok s hI.2.2 (by have := hI.1; omega)
  · obtain ⟨l1, l2, hm⟩ := hI
    have so := ok.slot i hi
    have a1 := so.add.1; have a2 := so.add.2; have b1 := so.val.1; have b2 := so.val.2
    have g1 : (0 : Int) ≤ (i : Int) ∧ (i : Int) < (p.fSlots.length : Int) := ⟨by omega, by omega⟩
    have g2 : inR ((i : Int) + 1) := inR_nat (n := i) (by omega)
    have wn : (0 : Int) ≤ (rd p.fSlots (i : Int)).fNode ∧ (rd p.fSlots (i : Int)).fNode < (m.fNodes.length : Int) := ⟨so.n0, so.n1⟩
    have wm : (0 : Int) ≤ rd m.fNodes (rd p.fSlots (i : Int)).fNode ∧ rd m.fNodes (rd p.fSlots (i : Int)).fNode < (h.fValues.length : Int) := ⟨so.m0, so.m1⟩
    have wa : (0 : Int) ≤ (rd p.fSlots (i : Int)).fAttr ∧ (rd p.fSlots (i : Int)).fAttr < ((rd h.fValues (rd m.fNodes (rd p.fSlots (i : Int)).fNode)).length : Int) := ⟨so.a0, so.a1⟩
    have wi : inR (rd (rd h.fValues (rd m.fNodes (rd p.fSlots (i : Int)).fNode)) (rd p.fSlots (i : Int)).fAttr - (rd p.fSlots (i : Int)).fTerm.fAdd) := inR_of (by omega)
    rw [attribute_solve.b0, ref21_Values.b0]; unfold jn; dsimp only
    rw [decide_eq_true (show (i : Int) < (p.fSlots.length : Int) by omega), cond_true, cond_true, gd g1, gd g1, gd wn, gd wn, gd wm, gd wm, gd wa, gd wa]
    have fin : ∀ (s' : List Int) (u' : List Bool), (s'.length : Int) = p.fVars → (u'.length : Int) = p.fVars → (∀ v ∈ s', Mid v) → ∃ r,
        ((attribute_value k (rd p.fSlots (i : Int)).fTerm s').bind fun t => (bif (t != rd (rd h.fValues (rd m.fNodes (rd p.fSlots (i : Int)).fNode)) (rd p.fSlots (i : Int)).fAttr) then some ([], 11) else (if inR ((i : Int) + 1) then rec s' u' ((i : Int) + 1) else none))) = some r ∧
        ((ref21_value k (rd p.fSlots (i : Int)).fTerm s').bind fun t => (bif (t != rd (rd h.fValues (rd m.fNodes (rd p.fSlots (i : Int)).fNode)) (rd p.fSlots (i : Int)).fAttr) then some ([], 11) else (if inR ((i : Int) + 1) then rec' s' u' ((i : Int) + 1) else none))) = some r ∧ r.1.length ≤ 12 := fun s' u' q1 q2 q3 => by
      obtain ⟨r, e1, e2⟩ := value_two (k := k) (rd p.fSlots (i : Int)).fTerm s' q3 (by rw [q1]; exact so.v1) so.add
      rw [e1, e2, Option.bind_some, Option.bind_some, gd g2, gd g2]
      cases (r != rd (rd h.fValues (rd m.fNodes (rd p.fSlots (i : Int)).fNode)) (rd p.fSlots (i : Int)).fAttr) with
      | true => exact ⟨_, rfl, rfl, Nat.zero_le _⟩
      | false => exact ih s' u' ⟨q1, q2, q3⟩
    by_cases c : (rd p.fSlots (i : Int)).fTerm.fVar ≥ 0
    · have w1 : (0 : Int) ≤ (rd p.fSlots (i : Int)).fTerm.fVar ∧ (rd p.fSlots (i : Int)).fTerm.fVar < (u.length : Int) := ⟨c, by rw [l2]; exact so.v1⟩
      have w2 : (0 : Int) ≤ (rd p.fSlots (i : Int)).fTerm.fVar ∧ (rd p.fSlots (i : Int)).fTerm.fVar < (s.length : Int) := ⟨c, by rw [l1]; exact so.v1⟩
      rw [decide_eq_true c, cond_true, cond_true, gd w1, gd w1]
      cases rd u (rd p.fSlots (i : Int)).fTerm.fVar with
      | true =>
        rw [Bool.not_true, cond_false, cond_false, gd w1]
        exact fin s u l1 l2 hm
      | false =>
        rw [Bool.not_false, cond_true, cond_true, gd wi, gd w2, gd w1, gd w1, gd wi, gd w2]
        exact fin _ _ (by rw [List.length_set]; exact l1) (by rw [List.length_set]; exact l2) (set_all hm ⟨by omega, by omega⟩)
    · rw [decide_eq_false c, cond_false, cond_false]
      exact fin s u l1 l2 hm
end Go.Proofs.YtcgdfjpeboiioaaGreat
