/- Whether values satisfy a test: both readings answer the same. -/
import Derived.Test.YtcgdfjpeboiioaaGreatS16
namespace Go.Proofs.YtcgdfjpeboiioaaGreat
open Go Go.Abs

def Mid (x : Int) : Prop := -2305843009213693952 ≤ x ∧ x ≤ 2305843009213693952
def sgN (s : Int) : Int := if s < 0 then -1 else 0
theorem shR63 (a : Int) (h : Mid a) : shR .i64 a 63 = sgN a := by
  have h1 := h.1; have h2 := h.2
  have e : shR .i64 a 63 = a.fdiv 9223372036854775808 := rfl
  rw [e, Int.fdiv_eq_ediv_of_nonneg _ (by omega)]
  unfold sgN; split <;> omega
theorem wide_eq {k : Nat} {a b : Int} (ha : Mid a) (hb : Mid b) : difference_wide k a b = some (sgN (a + b), (a + b) % 18446744073709551616) := by
  have a1 := ha.1; have a2 := ha.2; have b1 := hb.1; have b2 := hb.2
  unfold difference_wide
  rw [shR63 a ha, shR63 b hb, IntKind.wrap_u64, IntKind.wrap_u64, gd ⟨by omega, by omega, by omega, by omega⟩]
  have hw : IntKind.i64.wrap ((a % 18446744073709551616 + b % 18446744073709551616 + 0) / 18446744073709551616) = (a % 18446744073709551616 + b % 18446744073709551616 + 0) / 18446744073709551616 := wrap_inR (inR_of (by omega))
  rw [hw]
  have s1 : sgN a + sgN b + (a % 18446744073709551616 + b % 18446744073709551616 + 0) / 18446744073709551616 = sgN (a + b) := by
    unfold sgN; split <;> split <;> split <;> omega
  rw [s1, gd (inR_of (by unfold sgN; split <;> split <;> omega)), gd (inR_of (by unfold sgN; split <;> omega))]
  congr 2
  omega
def valT (x : Term) (vs : List Int) : Option Int := if x.fVar = -1 then some x.fAdd else if x.fVar < 0 ∨ x.fVar ≥ (vs.length : Int) then none else some (rd vs x.fVar + x.fAdd)
theorem valT_0 {x : Term} {vs : List Int} (c : x.fVar = -1) : valT x vs = some x.fAdd := if_pos c
theorem valT_n {x : Term} {vs : List Int} (c : ¬ x.fVar = -1) (h : x.fVar < 0 ∨ x.fVar ≥ (vs.length : Int)) : valT x vs = none := by unfold valT; rw [if_neg c, if_pos h]
theorem valT_s {x : Term} {vs : List Int} (c : ¬ x.fVar = -1) (h : ¬ (x.fVar < 0 ∨ x.fVar ≥ (vs.length : Int))) : valT x vs = some (rd vs x.fVar + x.fAdd) := by unfold valT; rw [if_neg c, if_neg h]
theorem holds1_eq {k : Nat} (x : Term) (vs : List Int) (hv : ∀ v ∈ vs, Mid v) (hx : Mid x.fAdd) : difference_Holds_1 k x vs = some (match valT x vs with | some s => (sgN s, s % 18446744073709551616, true) | none => (0, 0, false)) := by
  unfold difference_Holds_1 jn; dsimp only
  by_cases c : x.fVar = -1
  · rw [valT_0 c, c, beq_self_eq_true, cond_true, wide_eq ⟨by omega, by omega⟩ hx, Option.bind_some, Int.zero_add]
  · rw [show (x.fVar == -1) = false by rw [beq_eq_false_iff_ne]; exact c, cond_false]
    by_cases d : x.fVar < 0
    · rw [decide_eq_true d, valT_n c (.inl d)]; rfl
    · by_cases e : x.fVar ≥ (vs.length : Int)
      · rw [decide_eq_false d, decide_eq_true e, valT_n c (.inr e)]; rfl
      · rw [decide_eq_false d, decide_eq_false e, valT_s c (by omega), cond_false, cond_false, gd ⟨by omega, by omega⟩, wide_eq (hv _ (rd_mem (by omega) (by omega))) hx]; rfl
theorem refval_eq {k : Nat} (x : Term) (vs : List Int) (hv : ∀ v ∈ vs, Mid v) (hx : Mid x.fAdd) : ref03_value k x vs = some (match valT x vs with | some s => (s, true) | none => (0, false)) := by
  have x1 := hx.1; have x2 := hx.2
  unfold ref03_value jn; dsimp only
  by_cases c : x.fVar = -1
  · rw [valT_0 c, c, beq_self_eq_true, cond_true]
  · rw [show (x.fVar == -1) = false by rw [beq_eq_false_iff_ne]; exact c, cond_false]
    by_cases d : x.fVar < 0
    · rw [decide_eq_true d, valT_n c (.inl d)]; rfl
    · by_cases e : x.fVar ≥ (vs.length : Int)
      · rw [decide_eq_false d, decide_eq_true e, valT_n c (.inr e)]; rfl
      · have m := hv _ (rd_mem (l := vs) (x := x.fVar) (by omega) (by omega))
        have m1 := m.1; have m2 := m.2
        rw [decide_eq_false d, decide_eq_false e, valT_s c (by omega), cond_false, cond_false, gd ⟨by omega, by omega⟩, gd (inR_of (by omega))]
theorem valT_mid {x : Term} {vs : List Int} {s : Int} (hv : ∀ v ∈ vs, Mid v) (hx : Mid x.fAdd) (h : valT x vs = some s) : -4611686018427387904 ≤ s ∧ s ≤ 4611686018427387904 := by
  have x1 := hx.1; have x2 := hx.2
  unfold valT at h
  split at h
  · injection h with h; omega
  · split at h
    · cases h
    · injection h with h
      have m := hv _ (rd_mem (l := vs) (x := x.fVar) (by omega) (by omega))
      have m1 := m.1; have m2 := m.2
      omega
def ordI (a b : Int) : Int := if a < b then -1 else if a > b then 1 else 0
theorem cmpI_eq {k : Nat} (a b : Int) : cmp_Compare_int k a b = some (ordI a b) := by
  unfold cmp_Compare_int cmp_isNaN_int ordI
  rw [Option.bind_some, Option.bind_some, bne_self_eq_false, bne_self_eq_false, cond_false, cond_false]
  by_cases c : a < b
  · rw [decide_eq_true c, if_pos c]; rfl
  · rw [decide_eq_false c, if_neg c, cond_false]
    by_cases d : a > b
    · rw [decide_eq_true d, if_pos d]; rfl
    · rw [decide_eq_false d, if_neg d]; rfl
theorem cmpU_eq {k : Nat} (a b : Int) : cmp_Compare_uint64 k a b = some (ordI a b) := by
  unfold cmp_Compare_uint64 cmp_isNaN_uint64 ordI
  rw [Option.bind_some, Option.bind_some, bne_self_eq_false, bne_self_eq_false, cond_false, cond_false]
  by_cases c : a < b
  · rw [decide_eq_true c, if_pos c]; rfl
  · rw [decide_eq_false c, if_neg c, cond_false]
    by_cases d : a > b
    · rw [decide_eq_true d, if_pos d]; rfl
    · rw [decide_eq_false d, if_neg d]; rfl
theorem or_eq {k : Nat} (hk : 200 ≤ k) (a b : Int) : cmp_Or_int k [a, b] = some (if a ≠ 0 then a else b) := by
  refine loop1_eq (fun i => match i with | 0 => if a ≠ 0 then a else b | 1 => b | _ => 0) 2 (fun rec => ?_) (fun i hi rec ih => ?_) (k := k) (i := 0) (Nat.zero_le _) (by omega)
  · rfl
  · match i, hi, ih with
    | 0, _, ih =>
      rw [cmp_Or_int.b0, decide_eq_true (show ((0 : Nat) : Int) < (([a, b] : List Int).length : Int) by simp), cond_true, gd ⟨by simp, by simp⟩, gd (inR_nat (n := 0) (by omega)), ih]
      show (bif (a != 0) then some a else some b) = some (if a ≠ 0 then a else b)
      by_cases c : a = 0
      · subst c; rfl
      · rw [show (a != 0) = true by simpa using c, if_pos c]; rfl
    | 1, _, ih =>
      rw [cmp_Or_int.b0, decide_eq_true (show ((1 : Nat) : Int) < (([a, b] : List Int).length : Int) by simp), cond_true, gd ⟨by simp, by simp⟩, gd (inR_nat (n := 1) (by omega)), ih]
      show (bif (b != 0) then some b else some 0) = some b
      by_cases c : b = 0
      · subst c; rfl
      · rw [show (b != 0) = true by simpa using c]; rfl
theorem order_eq {s u : Int} (hs : -4611686018427387904 ≤ s ∧ s ≤ 4611686018427387904) (hu : -4611686018427387904 ≤ u ∧ u ≤ 4611686018427387904) :
    (if ordI (sgN s) (sgN u) ≠ 0 then ordI (sgN s) (sgN u) else ordI (s % 18446744073709551616) (u % 18446744073709551616)) = ordI s u := by
  unfold ordI sgN
  repeat' split
  all_goals first | omega | contradiction
theorem holds_eq {k : Nat} (hk : 200 ≤ k) (x : Test) (vs : List Int) (hv : ∀ v ∈ vs, Mid v) (hl : Mid x.fLeft.fAdd) (hr : Mid x.fRight.fAdd) : ∃ b, difference_Holds k x vs = some b ∧ ref03_Holds k x vs = some b := by
  unfold difference_Holds ref03_Holds jn; dsimp only
  rw [holds1_eq _ _ hv hl, holds1_eq _ _ hv hr, refval_eq _ _ hv hl, refval_eq _ _ hv hr, Option.bind_some, Option.bind_some, Option.bind_some, Option.bind_some]
  cases c1 : valT x.fLeft vs with
  | none => exact ⟨false, rfl, rfl⟩
  | some s =>
    cases c2 : valT x.fRight vs with
    | none => exact ⟨false, rfl, rfl⟩
    | some u =>
      dsimp only
      have b1 := valT_mid hv hl c1; have b2 := valT_mid hv hr c2
      rw [Bool.not_true, cond_false, cond_false, cond_false, cond_false, cmpI_eq, Option.bind_some, cmpU_eq, Option.bind_some, or_eq hk, Option.bind_some, order_eq b1 b2]
      have e1 : decide (ordI s u ≤ 0) = decide (s ≤ u) := by
        unfold ordI; rw [Bool.eq_iff_iff, decide_eq_true_eq, decide_eq_true_eq]; split
        · omega
        · split <;> omega
      have e2 : (ordI s u == 0) = (s == u) := by
        unfold ordI; rw [Bool.eq_iff_iff, beq_iff_eq, beq_iff_eq]; split
        · omega
        · split <;> omega
      rw [e1, e2]
      cases (x.fKind == 1) <;> cases decide (s ≤ u) <;> cases (x.fKind == 2) <;> exact ⟨_, rfl, rfl⟩
end Go.Proofs.YtcgdfjpeboiioaaGreat
