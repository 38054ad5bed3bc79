/- Tools for laws about the pure functions: results, loops over a number, scans. -/
import Derived.Test.YtcgdfjpeboiioaaGreatD
namespace Go.Proofs.YtcgdfjpeboiioaaGreat
open Go Go.Abs

/-- It answers, and what it answers is so. -/
def Out {R : Type} (x : Option R) (P : R → Prop) : Prop := ∃ r, x = some r ∧ P r
theorem Out.some {R : Type} {r : R} {P : R → Prop} (h : P r) : Out (some r) P := ⟨r, rfl, h⟩
theorem Out.bind {R S : Type} {x : Option R} {f : R → Option S} {P : R → Prop} {Q : S → Prop} (h : Out x P) (g : ∀ r, P r → Out (f r) Q) : Out (x.bind f) Q := by
  obtain ⟨r, rfl, hr⟩ := h; exact g r hr
theorem Out.eq {R : Type} {x : Option R} {r : R} (h : Out x (· = r)) : x = Option.some r := by obtain ⟨t, rfl, rfl⟩ := h; rfl
theorem Out.mono {R : Type} {x : Option R} {P Q : R → Prop} (h : Out x P) (g : ∀ r, P r → Q r) : Out x Q := by obtain ⟨r, e, hr⟩ := h; exact ⟨r, e, g r hr⟩
theorem gd {R : Type} {p : Prop} [Decidable p] (h : p) (x : Option R) : (if p then x else none) = x := if_pos h

theorem loop1_out {R : Type} {b : (Int → Option R) → Int → Option R} {I : Nat → Prop} {P : Nat → R → Prop} (n : Nat)
    (hend : I n → ∀ rec, Out (b rec (n : Int)) (P n))
    (hstep : ∀ i, i < n → I i → ∀ rec : Int → Option R, (I (i + 1) → Out (rec ((i : Int) + 1)) (P (i + 1))) → Out (b rec (i : Int)) (P i)) :
    ∀ k i : Nat, i ≤ n → n < k + i → I i → Out (loop1 k b (i : Int)) (P i)
  | 0, i, h, hk, _ => by omega
  | k + 1, i, h, hk, hi => by
    rcases Nat.lt_or_ge i n with hl | hl
    · refine hstep i hl hi _ fun hI => ?_
      have := loop1_out n hend hstep k (i + 1) hl (by omega) hI
      simpa using this
    · have : i = n := by omega
      subst this
      exact hend hi _

theorem loop1_eq {R : Type} {b : (Int → Option R) → Int → Option R} (F : Nat → R) (n : Nat)
    (hend : ∀ rec, b rec (n : Int) = some (F n))
    (hstep : ∀ i, i < n → ∀ rec : Int → Option R, rec ((i : Int) + 1) = some (F (i + 1)) → b rec (i : Int) = some (F i))
    {k i : Nat} (hi : i ≤ n) (hk : n < k + i) : loop1 k b (i : Int) = some (F i) :=
  (loop1_out (I := fun _ => True) (P := fun i r => r = F i) n (fun _ rec => ⟨_, hend rec, rfl⟩)
    (fun i hi _ rec h => ⟨_, hstep i hi rec (h trivial).eq, rfl⟩) k i hi hk trivial).eq

/-- Loops with one more thing that goes along ahead of the number. -/
theorem loop2_out {S R : Type} {b : (S → Int → Option R) → S → Int → Option R} {P : S → Nat → R → Prop} {I : S → Nat → Prop} (n : Nat)
    (hend : ∀ s, I s n → ∀ rec, Out (b rec s (n : Int)) (P s n))
    (hstep : ∀ s i, i < n → I s i → ∀ rec : S → Int → Option R, (∀ s', I s' (i + 1) → Out (rec s' ((i : Int) + 1)) (P s' (i + 1))) → Out (b rec s (i : Int)) (P s i)) :
    ∀ (k i : Nat) (s : S), i ≤ n → n < k + i → I s i → Out (loop2 k b s (i : Int)) (P s i)
  | 0, i, s, h, hk, _ => by omega
  | k + 1, i, s, h, hk, hi => by
    rcases Nat.lt_or_ge i n with hl | hl
    · refine hstep s i hl hi _ fun s' hI => ?_
      have := loop2_out n hend hstep k (i + 1) s' hl (by omega) hI
      simpa using this
    · have : i = n := by omega
      subst this
      exact hend s hi _

/-! ### Scans -/
def scanF (e : Nat → Int) : Nat → Nat → Int
  | _, 0 => 0
  | i, d + 1 => bif e i != 0 then e i else scanF e (i + 1) d
def scan (e : Nat → Int) (i n : Nat) : Int := scanF e i (n - i)
theorem scan_end {e : Nat → Int} {n : Nat} : scan e n n = 0 := by simp [scan, scanF]
theorem scan_step {e : Nat → Int} {i n : Nat} (h : i < n) : scan e i n = bif e i != 0 then e i else scan e (i + 1) n := by
  have : n - i = (n - (i + 1)) + 1 := by omega
  unfold scan; rw [this]; rfl
theorem scan_zero {e : Nat → Int} {n : Nat} : ∀ {i : Nat}, scan e i n = 0 → ∀ j, i ≤ j → j < n → e j = 0 := by
  intro i
  induction hd : n - i generalizing i with
  | zero => intro _ j h1 h2; omega
  | succ d ih =>
    intro h j h1 h2
    rw [scan_step (by omega)] at h
    by_cases he : e i = 0
    · rcases Nat.eq_or_lt_of_le h1 with rfl | h3
      · exact he
      · simp [he] at h
        exact ih (i := i + 1) (by omega) h j h3 h2
    · exfalso
      have : (e i != 0) = true := by simp [he]
      rw [this] at h; exact he h

def anyF (p : Nat → Bool) : Nat → Nat → Bool
  | _, 0 => false
  | i, d + 1 => p i || anyF p (i + 1) d
def anyN (p : Nat → Bool) (i n : Nat) : Bool := anyF p i (n - i)
theorem anyN_end {p : Nat → Bool} {n : Nat} : anyN p n n = false := by simp [anyN, anyF]
theorem anyN_step {p : Nat → Bool} {i n : Nat} (h : i < n) : anyN p i n = (p i || anyN p (i + 1) n) := by
  have : n - i = (n - (i + 1)) + 1 := by omega
  unfold anyN; rw [this]; rfl
theorem anyN_iff {p : Nat → Bool} {n : Nat} : ∀ {i : Nat}, anyN p i n = true ↔ ∃ j, i ≤ j ∧ j < n ∧ p j = true := by
  intro i
  induction hd : n - i generalizing i with
  | zero =>
    have : anyN p i n = false := by simp [anyN, anyF, hd]
    rw [this]; constructor
    · intro h; cases h
    · rintro ⟨j, h1, h2, _⟩; omega
  | succ d ih =>
    rw [anyN_step (by omega), Bool.or_eq_true, ih (i := i + 1) (by omega)]
    constructor
    · rintro (h | ⟨j, h1, h2, h3⟩)
      · exact ⟨i, Nat.le_refl _, by omega, h⟩
      · exact ⟨j, by omega, h2, h3⟩
    · rintro ⟨j, h1, h2, h3⟩
      rcases Nat.eq_or_lt_of_le h1 with rfl | h4
      · exact .inl h3
      · exact .inr ⟨j, h4, h2, h3⟩
theorem anyN_congr {p q : Nat → Bool} {i n : Nat} (h : ∀ j, i ≤ j → j < n → p j = q j) : anyN p i n = anyN q i n := by
  rw [Bool.eq_iff_iff, anyN_iff, anyN_iff]
  exact ⟨fun ⟨j, a, b, c⟩ => ⟨j, a, b, h j a b ▸ c⟩, fun ⟨j, a, b, c⟩ => ⟨j, a, b, (h j a b).symm ▸ c⟩⟩

theorem inR_of {x : Int} (h : -9223372036854775808 ≤ x ∧ x ≤ 9223372036854775807) : inR x := h
theorem inR_nat {n : Nat} (h : n ≤ 1000000) : inR ((n : Int) + 1) := by unfold inR; omega
theorem rd_take {α : Type} [Inhabited α] {l : List α} {i j : Nat} (h : j < i) : rd (l.take i) (j : Int) = rd l (j : Int) := by
  simp [rd, List.getD, List.getElem?_take, h]
theorem rd_mem {α : Type} [Inhabited α] {l : List α} {x : Int} (h0 : 0 ≤ x) (h : x < (l.length : Int)) : rd l x ∈ l := by
  have : x.toNat < l.length := by omega
  simp [rd, List.getD, List.getElem?_eq_getElem this]

/-! ### Is there one? -/
def ixb {α : Type} [Inhabited α] (a0 : List α) (a1 : α → Option Bool) (rec0 : Int → Option Int) (x8 : Int) : Option Int :=
  (bif (decide (x8 < (a0.length : Int))) then (if (0 : Int) ≤ x8 ∧ x8 < (a0.length : Int) then ((a1 (rd a0 x8)).bind fun t32 => (bif t32 then (some x8) else (if inR (x8 + 1) then (rec0 (x8 + 1)) else none))) else none) else (some (-1)))
theorem ix_contains {α : Type} [Inhabited α] (l : List α) (f : α → Option Bool) (p : Nat → Bool) (k : Nat) (hk : l.length < k) (hl : l.length ≤ 1000000)
    (hf : ∀ j, j < l.length → f (rd l (j : Int)) = some (p j)) :
    ((loop1 k (ixb l f) 0).bind fun t => some (decide (t ≥ 0))) = some (anyN p 0 l.length) := by
  obtain ⟨r, e, h⟩ := loop1_out (I := fun _ => True) (P := fun i r => decide (r ≥ 0) = anyN p i l.length) (b := ixb l f) l.length
    (fun _ rec => ⟨-1, by simp [ixb], by rw [anyN_end]; decide⟩)
    (fun i hi _ rec ih => by
      rw [anyN_step hi]
      simp only [ixb, hf i hi, Option.bind_some]
      rw [gd (inR_nat (by omega)), gd (by omega)]
      have : decide ((i : Int) < (l.length : Int)) = true := by simp [hi]
      rw [this, cond_true]
      cases hp : p i with
      | true => exact ⟨_, rfl, by simp⟩
      | false => simpa using ih trivial)
    k 0 (Nat.zero_le _) (by omega) trivial
  have e' : loop1 k (ixb l f) 0 = some r := e
  rw [e', Option.bind_some, h]
theorem ContainsFunc_int {k : Nat} (l : List Int) (f : Int → Option Bool) (p : Nat → Bool) (hk : l.length < k) (hl : l.length ≤ 1000000)
    (hf : ∀ j, j < l.length → f (rd l (j : Int)) = some (p j)) : slices_ContainsFunc_int k l f = some (anyN p 0 l.length) := ix_contains l f p k hk hl hf
theorem ContainsFunc_Edge {k : Nat} (l : List Edge) (f : Edge → Option Bool) (p : Nat → Bool) (hk : l.length < k) (hl : l.length ≤ 1000000)
    (hf : ∀ j, j < l.length → f (rd l (j : Int)) = some (p j)) : slices_ContainsFunc_Edge k l f = some (anyN p 0 l.length) := ix_contains l f p k hk hl hf
theorem ContainsFunc_NodeType {k : Nat} (l : List NodeType) (f : NodeType → Option Bool) (p : Nat → Bool) (hk : l.length < k) (hl : l.length ≤ 1000000)
    (hf : ∀ j, j < l.length → f (rd l (j : Int)) = some (p j)) : slices_ContainsFunc_NodeType k l f = some (anyN p 0 l.length) := ix_contains l f p k hk hl hf
theorem ContainsFunc_Attr {k : Nat} (l : List Attr) (f : Attr → Option Bool) (p : Nat → Bool) (hk : l.length < k) (hl : l.length ≤ 1000000)
    (hf : ∀ j, j < l.length → f (rd l (j : Int)) = some (p j)) : slices_ContainsFunc_Attr k l f = some (anyN p 0 l.length) := ix_contains l f p k hk hl hf
theorem ContainsFunc_EdgeType {k : Nat} (l : List EdgeType) (f : EdgeType → Option Bool) (p : Nat → Bool) (hk : l.length < k) (hl : l.length ≤ 1000000)
    (hf : ∀ j, j < l.length → f (rd l (j : Int)) = some (p j)) : slices_ContainsFunc_EdgeType k l f = some (anyN p 0 l.length) := ix_contains l f p k hk hl hf
theorem Contains_string {k : Nat} (l : List Str) (a : Str) (hk : l.length < k) (hl : l.length ≤ 1000000) :
    slices_Contains_string k l a = some (anyN (fun j => a == rd l (j : Int)) 0 l.length) := ix_contains l (fun x => some (a == x)) _ k hk hl (fun _ _ => rfl)
theorem Contains_int {k : Nat} (l : List Int) (a : Int) (hk : l.length < k) (hl : l.length ≤ 1000000) :
    slices_Contains_int k l a = some (anyN (fun j => a == rd l (j : Int)) 0 l.length) := ix_contains l (fun x => some (a == x)) _ k hk hl (fun _ _ => rfl)
end Go.Proofs.YtcgdfjpeboiioaaGreat
