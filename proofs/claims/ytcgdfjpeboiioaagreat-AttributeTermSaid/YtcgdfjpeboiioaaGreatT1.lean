/- The law AttributeTerm about the pure functions. -/
import Derived.Test.YtcgdfjpeboiioaaGreatS1
namespace Go.Proofs.YtcgdfjpeboiioaaGreat
open Go Go.Abs

def I32 (x : Int) : Prop := -2147483648 ≤ x ∧ x ≤ 2147483647
theorem take_rd1 {l : List Int} {i : Nat} (hi : i < l.length) : l.take (i + 1) = l.take i ++ [rd l (i : Int)] := by
  have : rd l (i : Int) = l[i] := by simp [rd, List.getD, List.getElem?_eq_getElem hi]
  rw [this, List.take_succ_eq_append_getElem hi]
theorem term_eq {k : Nat} (x : Term) (l : List Int) (hl : ∀ v ∈ l, I32 v) (hn : l.length ≤ 100) (h1 : -1099511627776 ≤ x.fAdd) (h2 : x.fAdd ≤ 1099511627776) :
    ∃ r, attribute_Term k x l = some r ∧ ref21_Term k x l = some r := by
  unfold attribute_Term ref21_Term attribute_within attribute_value ref21_value jn; dsimp only
  rw [gd (inR_of (by omega))]
  by_cases a : x.fVar < -1
  · refine ⟨(0, 6), ?_, ?_⟩
    · rw [decide_eq_false (show ¬ x.fVar ≥ -1 by omega)]; rfl
    · rw [decide_eq_true a]; rfl
  · rw [decide_eq_true (show x.fVar ≥ -1 by omega), decide_eq_false a, cond_true, cond_false]
    by_cases b : x.fVar ≥ (l.length : Int)
    · refine ⟨(0, 6), ?_, ?_⟩
      · rw [decide_eq_false (show ¬ x.fVar ≤ (l.length : Int) - 1 by omega)]; rfl
      · rw [decide_eq_true b]; rfl
    · rw [decide_eq_true (show x.fVar ≤ (l.length : Int) - 1 by omega), decide_eq_false b, Option.bind_some, Bool.not_true, cond_false]
      by_cases c : x.fVar < 0
      · rw [decide_eq_true c, cond_true]; exact ⟨(x.fAdd, 0), rfl, rfl⟩
      · have hv := hl _ (rd_mem (l := l) (x := x.fVar) (by omega) (by omega))
        have hv1 := hv.1; have hv2 := hv.2
        rw [decide_eq_false c, cond_false, gd ⟨by omega, by omega⟩, gd (inR_of (by omega))]
        exact ⟨(rd l x.fVar + x.fAdd, 0), rfl, rfl⟩
theorem law_term {k : Nat} (hk : 6000 ≤ k) (aw : law21_awake k = some true) (x : Term) (l : List Int) (hl : ∀ v ∈ l, I32 v) : law21_AttributeTerm k x l = some true := by
  unfold law21_AttributeTerm jn; dsimp only
  rw [aw, Option.bind_some, Bool.not_true, cond_false, Option.bind_some, cond_true]
  by_cases h0 : (l.length : Int) > 100
  · rw [decide_eq_true h0, cond_true]
  rw [decide_eq_false h0, cond_false]
  by_cases h1 : x.fAdd < -1099511627776
  · rw [decide_eq_true h1, cond_true]
  rw [decide_eq_false h1, cond_false]
  by_cases h2 : x.fAdd > 1099511627776
  · rw [decide_eq_true h2, cond_true]
  rw [decide_eq_false h2, cond_false]
  refine Out.eq (loop2_out (S := List Int) (P := fun _ _ r => r = true) (I := fun s i => s = l.take i) l.length (fun s hs rec => ?_) (fun s i hi hs rec ih => ?_) k 0 _ (Nat.zero_le _) (by omega) rfl)
  · have hs' : s = l := by rw [hs, List.take_length]
    subst hs'
    obtain ⟨r, e1, e2⟩ := term_eq (k := k) x s hl (by omega) (by omega) (by omega)
    rw [law21_AttributeTerm.b0, decide_eq_false (show ¬ (s.length : Int) < (s.length : Int) by omega), cond_false]
    unfold slices_Clone_int jn; dsimp only
    rw [gd (show s.length ≤ lim by unfold lim; omega), Option.bind_some, e1, Option.bind_some, e2, Option.bind_some, beq_self_eq_true, beq_self_eq_true, cond_true]
    exact ⟨true, rfl, rfl⟩
  · have hv := hl _ (rd_mem (l := l) (x := (i : Int)) (by omega) (by omega))
    have hv1 := hv.1; have hv2 := hv.2
    have hsl : s.length ≤ 100 := by rw [hs, List.length_take]; omega
    rw [law21_AttributeTerm.b0, decide_eq_true (show (i : Int) < (l.length : Int) by omega), cond_true, gd ⟨by omega, by omega⟩, gd (show s.length + [IntKind.i64.wrap (rd l (i : Int))].length ≤ lim by unfold lim; simp; omega), gd (inR_nat (n := i) (by omega)), wrap_inR (inR_of (by omega))]
    exact ih _ (by rw [hs, take_rd1 hi])
end Go.Proofs.YtcgdfjpeboiioaaGreat
