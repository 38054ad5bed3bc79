/- Towards Solve: bounds, copies, the errors of what is given. -/
import Derived.Test.YtcgdfjpeboiioaaGreatS18
import Derived.Test.YtcgdfjpeboiioaaGreatS10
namespace Go.Proofs.YtcgdfjpeboiioaaGreat
open Go Go.Abs

theorem few21_eq {k : Nat} (p : Pattern) : ref21_Few k p = some ((decide ((p.fGraph.fNodes.length : Int) ≤ 45) && decide ((p.fGraph.fEdges.length : Int) ≤ 90)) && (decide ((p.fSlots.length : Int) ≤ 15) && decide ((p.fTests.length : Int) ≤ 15))) := by
  unfold ref21_Few jn; dsimp only
  rw [ref05_Few_eq, Option.bind_some]
  cases (decide ((p.fGraph.fNodes.length : Int) ≤ 45) && decide ((p.fGraph.fEdges.length : Int) ≤ 90)) <;> cases decide ((p.fSlots.length : Int) ≤ 15) <;> rfl
structure FewH (h : Host) : Prop where
  graph : FewG h.fGraph
  len : h.fValues.length ≤ 45
  each : ∀ j : Nat, j < h.fValues.length → (rd h.fValues (j : Int)).length ≤ 12
theorem few15_out {k : Nat} (hk : 200 ≤ k) (h : Host) : Out (ref15_Few k h) (fun b => b = true → FewH h) := by
  unfold ref15_Few jn; dsimp only
  rw [ref05_Few_eq, Option.bind_some]
  cases c : (decide ((h.fGraph.fNodes.length : Int) ≤ 45) && decide ((h.fGraph.fEdges.length : Int) ≤ 90)) with
  | false => exact ⟨false, rfl, fun e => by cases e⟩
  | true =>
    rw [Bool.and_eq_true, decide_eq_true_eq, decide_eq_true_eq] at c
    rw [Bool.not_true, cond_false]
    by_cases d : (h.fValues.length : Int) > 45
    · rw [decide_eq_true d, cond_true]; exact ⟨false, rfl, fun e => by cases e⟩
    · rw [decide_eq_false d, cond_false]
      refine loop1_out (I := fun i => ∀ j : Nat, j < i → (rd h.fValues (j : Int)).length ≤ 12) (P := fun _ b => b = true → FewH h) h.fValues.length (fun hI rec => ?_) (fun i hi hI rec ih => ?_) k 0 (Nat.zero_le _) (by omega) (fun j hj => by omega)
      · rw [ref15_Few.b0, decide_eq_false (show ¬ (h.fValues.length : Int) < (h.fValues.length : Int) by omega), cond_false]
        exact ⟨true, rfl, fun _ => ⟨⟨by omega, by omega⟩, by omega, hI⟩⟩
      · rw [ref15_Few.b0, decide_eq_true (show (i : Int) < (h.fValues.length : Int) by omega), cond_true, gd ⟨by omega, by omega⟩, gd (inR_nat (n := i) (by omega))]
        by_cases e : ((rd h.fValues (i : Int)).length : Int) > 12
        · rw [decide_eq_true e, cond_true]; exact ⟨false, rfl, fun e => by cases e⟩
        · rw [decide_eq_false e, cond_false]
          refine ih fun j hj => ?_
          rcases Nat.lt_succ_iff_lt_or_eq.1 hj with hj | rfl
          · exact hI j hj
          · omega
structure Lit21 (t : Types) (p : Pattern) (h : Host) : Prop where
  pat : FewP p
  host : FewH h
  light : LightP t p.fGraph h.fGraph
theorem light_out {k : Nat} (hk : 200 ≤ k) {t : Types} (p : Pattern) (h : Host) (hA : ∀ n ∈ t.fNodes, n.fAttrs.length ≤ 140737488351232) : Out (ref21_Light k t p h) (fun b => b = true → Lit21 t p h) := by
  unfold ref21_Light jn; dsimp only
  rw [few21_eq, Option.bind_some]
  cases c : ((decide ((p.fGraph.fNodes.length : Int) ≤ 45) && decide ((p.fGraph.fEdges.length : Int) ≤ 90)) && (decide ((p.fSlots.length : Int) ≤ 15) && decide ((p.fTests.length : Int) ≤ 15))) with
  | false => exact ⟨false, rfl, fun e => by cases e⟩
  | true =>
    simp only [Bool.and_eq_true, decide_eq_true_eq] at c
    rw [cond_true]
    obtain ⟨b, e, hb⟩ := few15_out hk h
    rw [e, Option.bind_some]
    cases b with
    | false => exact ⟨false, rfl, fun e => by cases e⟩
    | true =>
      obtain ⟨b', e', hb'⟩ := ref17_Light_out (k := k) hk (t := t) (p := p.fGraph) (g := h.fGraph) hA
      rw [cond_true, e', Option.bind_some]
      exact ⟨b', rfl, fun q => ⟨⟨⟨by omega, by omega⟩, by omega, by omega⟩, hb rfl, hb' q⟩⟩
theorem copied21 {k : Nat} {p : Pattern} (hp : FewP p) : ref21_Copied k p = some p := by
  have h1 := hp.graph.nodes; have h2 := hp.graph.edges; have h3 := hp.slots; have h4 := hp.tests
  unfold ref21_Copied ref05_Copied
  rw [gd (show p.fGraph.fNodes.length ≤ lim by unfold lim; omega), gd (show p.fGraph.fEdges.length ≤ lim by unfold lim; omega), Option.bind_some, gd (show p.fSlots.length ≤ lim by unfold lim; omega), gd (show p.fTests.length ≤ lim by unfold lim; omega)]
theorem copied15 {k : Nat} (hk : 200 ≤ k) {h : Host} (hh : FewH h) : ref15_Copied k h = some h := by
  have h1 := hh.graph.nodes; have h2 := hh.graph.edges; have h3 := hh.len
  unfold ref15_Copied ref05_Copied
  rw [gd (show h.fGraph.fNodes.length ≤ lim by unfold lim; omega), gd (show h.fGraph.fEdges.length ≤ lim by unfold lim; omega), Option.bind_some]
  refine Out.eq (loop2_out (S := List (List Int)) (P := fun _ _ r => r = h) (I := fun s i => s = h.fValues.take i) h.fValues.length (fun s hs rec => ?_) (fun s i hi hs rec ih => ?_) k 0 [] (Nat.zero_le _) (by omega) rfl)
  · rw [ref15_Copied.b0, decide_eq_false (show ¬ (h.fValues.length : Int) < (h.fValues.length : Int) by omega), cond_false, hs, List.take_length]; exact ⟨_, rfl, rfl⟩
  · have he := hh.each i hi
    have hsl : s.length ≤ 45 := by rw [hs, List.length_take]; omega
    rw [ref15_Copied.b0, decide_eq_true (show (i : Int) < (h.fValues.length : Int) by omega), cond_true, gd ⟨by omega, by omega⟩, gd (show (rd h.fValues (i : Int)).length ≤ lim by unfold lim; omega), gd (show s.length + [rd h.fValues (i : Int)].length ≤ lim by unfold lim; simp; omega), gd (inR_nat (n := i) (by omega))]
    exact ih _ (by rw [hs, take_rdA hi])
def givenE (t : Types) (p : Pattern) (h : Host) : Int := bif patE t p != 0 then patE t p else (hostV t h).2
theorem given_two {k : Nat} (hk : 1000 ≤ k) {t : Types} {p : Pattern} {h : Host} (ht : FewT t) (hp : FewP p) (hh : FewG h.fGraph) : attribute_given k t p h = some (givenE t p h) ∧ ref21_given k t p h = some (givenE t p h) := by
  obtain ⟨⟨r, e, hr, _⟩, ⟨r', e', hr', _⟩⟩ := host_valid_eq hk ht hh
  unfold attribute_given ref21_given givenE
  rw [valid_eq hk ht hp, ref_valid_eq hk ht hp, Option.bind_some, Option.bind_some, e, e', Option.bind_some, Option.bind_some, hr, hr']
  cases (patE t p != 0) <;> exact ⟨rfl, rfl⟩
theorem Equal_int_self {k : Nat} (l : List Int) (hk : l.length < k) (hl : l.length ≤ 1000000) : slices_Equal_int k l l = some true := by
  unfold slices_Equal_int
  rw [bne_self_eq_false, cond_false]
  refine loop1_eq (fun _ => true) l.length (fun rec => ?_) (fun i hi rec ih => ?_) (k := k) (i := 0) (Nat.zero_le _) (by omega)
  · rw [slices_Equal_int.b0, decide_eq_false (show ¬ (l.length : Int) < (l.length : Int) by omega), cond_false]
  · rw [slices_Equal_int.b0, decide_eq_true (show (i : Int) < (l.length : Int) by omega), cond_true, gd ⟨by omega, by omega⟩, gd ⟨by omega, by omega⟩, bne_self_eq_false, cond_false, gd (inR_nat (n := i) (by omega)), ih]
end Go.Proofs.YtcgdfjpeboiioaaGreat
