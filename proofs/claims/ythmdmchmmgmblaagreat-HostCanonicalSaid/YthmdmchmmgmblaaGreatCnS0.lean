/- The pure laws: what the pure functions answer. -/
import Derived.Test.YthmdmchmmgmblaaGreatCnD
namespace Go.Proofs.YthmdmchmmgmblaaGreat
open Go Go.Abs

/-- It answers, and what it answers is so. -/
def Out {R : Type} (x : Option R) (P : R → Prop) : Prop := ∃ r, x = some r ∧ P r
theorem Out.some {R : Type} {r : R} {P : R → Prop} (h : P r) : Out (some r) P := ⟨r, rfl, h⟩
theorem Out.bind {R S : Type} {x : Option R} {f : R → Option S} {P : R → Prop} {Q : S → Prop} (h : Out x P) (g : ∀ r, P r → Out (f r) Q) : Out (x.bind f) Q := by
  obtain ⟨r, rfl, hr⟩ := h; exact g r hr
theorem Out.eq {R : Type} {x : Option R} {r : R} (h : Out x (· = r)) : x = Option.some r := by obtain ⟨t, rfl, rfl⟩ := h; rfl
theorem Out.mono {R : Type} {x : Option R} {P Q : R → Prop} (h : Out x P) (g : ∀ r, P r → Q r) : Out x Q := by obtain ⟨r, e, hr⟩ := h; exact ⟨r, e, g r hr⟩
theorem gd {R : Type} {p : Prop} [Decidable p] (h : p) (x : Option R) : (if p then x else none) = x := if_pos h

theorem loop1_out {R : Type} {b : (Int → Option R) → Int → Option R} {I : Nat → Prop} {P : Nat → R → Prop} (n : Nat)
    (hend : I n → ∀ rec, Out (b rec (n : Int)) (P n))
    (hstep : ∀ i, i < n → I i → ∀ rec : Int → Option R, (I (i + 1) → Out (rec ((i : Int) + 1)) (P (i + 1))) → Out (b rec (i : Int)) (P i)) :
    ∀ k i : Nat, i ≤ n → n < k + i → I i → Out (loop1 k b (i : Int)) (P i)
  | 0, i, h, hk, _ => by omega
  | k + 1, i, h, hk, hi => by
    rcases Nat.lt_or_ge i n with hl | hl
    · refine hstep i hl hi _ fun hI => ?_
      have := loop1_out n hend hstep k (i + 1) hl (by omega) hI
      simpa using this
    · have : i = n := by omega
      subst this
      exact hend hi _

theorem loop1_eq {R : Type} {b : (Int → Option R) → Int → Option R} (F : Nat → R) (n : Nat)
    (hend : ∀ rec, b rec (n : Int) = some (F n))
    (hstep : ∀ i, i < n → ∀ rec : Int → Option R, rec ((i : Int) + 1) = some (F (i + 1)) → b rec (i : Int) = some (F i))
    {k i : Nat} (hi : i ≤ n) (hk : n < k + i) : loop1 k b (i : Int) = some (F i) :=
  (loop1_out (I := fun _ => True) (P := fun i r => r = F i) n (fun _ rec => ⟨_, hend rec, rfl⟩)
    (fun i hi _ rec h => ⟨_, hstep i hi rec (h trivial).eq, rfl⟩) k i hi hk trivial).eq

/-- Loops with one more thing that goes along ahead of the number. -/
theorem loop2_out {S R : Type} {b : (S → Int → Option R) → S → Int → Option R} {P : S → Nat → R → Prop} {I : S → Nat → Prop} (n : Nat)
    (hend : ∀ s, I s n → ∀ rec, Out (b rec s (n : Int)) (P s n))
    (hstep : ∀ s i, i < n → I s i → ∀ rec : S → Int → Option R, (∀ s', I s' (i + 1) → Out (rec s' ((i : Int) + 1)) (P s' (i + 1))) → Out (b rec s (i : Int)) (P s i)) :
    ∀ (k i : Nat) (s : S), i ≤ n → n < k + i → I s i → Out (loop2 k b s (i : Int)) (P s i)
  | 0, i, s, h, hk, _ => by omega
  | k + 1, i, s, h, hk, hi => by
    rcases Nat.lt_or_ge i n with hl | hl
    · refine hstep s i hl hi _ fun s' hI => ?_
      have := loop2_out n hend hstep k (i + 1) s' hl (by omega) hI
      simpa using this
    · have : i = n := by omega
      subst this
      exact hend s hi _

/-! ### Scans -/
def scanF (e : Nat → Int) : Nat → Nat → Int
  | _, 0 => 0
  | i, d + 1 => bif e i != 0 then e i else scanF e (i + 1) d
def scan (e : Nat → Int) (i n : Nat) : Int := scanF e i (n - i)
theorem scan_end {e : Nat → Int} {n : Nat} : scan e n n = 0 := by simp [scan, scanF]
theorem scan_step {e : Nat → Int} {i n : Nat} (h : i < n) : scan e i n = bif e i != 0 then e i else scan e (i + 1) n := by
  have : n - i = (n - (i + 1)) + 1 := by omega
  unfold scan; rw [this]; rfl
theorem scan_zero {e : Nat → Int} {n : Nat} : ∀ {i : Nat}, scan e i n = 0 → ∀ j, i ≤ j → j < n → e j = 0 := by
  intro i
  induction hd : n - i generalizing i with
  | zero => intro _ j h1 h2; omega
  | succ d ih =>
    intro h j h1 h2
    rw [scan_step (by omega)] at h
    by_cases he : e i = 0
    · rcases Nat.eq_or_lt_of_le h1 with rfl | h3
      · exact he
      · simp [he] at h
        exact ih (i := i + 1) (by omega) h j h3 h2
    · exfalso
      have : (e i != 0) = true := by simp [he]
      rw [this] at h; exact he h

def anyF (p : Nat → Bool) : Nat → Nat → Bool
  | _, 0 => false
  | i, d + 1 => p i || anyF p (i + 1) d
def anyN (p : Nat → Bool) (i n : Nat) : Bool := anyF p i (n - i)
theorem anyN_end {p : Nat → Bool} {n : Nat} : anyN p n n = false := by simp [anyN, anyF]
theorem anyN_step {p : Nat → Bool} {i n : Nat} (h : i < n) : anyN p i n = (p i || anyN p (i + 1) n) := by
  have : n - i = (n - (i + 1)) + 1 := by omega
  unfold anyN; rw [this]; rfl
theorem anyN_iff {p : Nat → Bool} {n : Nat} : ∀ {i : Nat}, anyN p i n = true ↔ ∃ j, i ≤ j ∧ j < n ∧ p j = true := by
  intro i
  induction hd : n - i generalizing i with
  | zero =>
    have : anyN p i n = false := by simp [anyN, anyF, hd]
    rw [this]; constructor
    · intro h; cases h
    · rintro ⟨j, h1, h2, _⟩; omega
  | succ d ih =>
    rw [anyN_step (by omega), Bool.or_eq_true, ih (i := i + 1) (by omega)]
    constructor
    · rintro (h | ⟨j, h1, h2, h3⟩)
      · exact ⟨i, Nat.le_refl _, by omega, h⟩
      · exact ⟨j, by omega, h2, h3⟩
    · rintro ⟨j, h1, h2, h3⟩
      rcases Nat.eq_or_lt_of_le h1 with rfl | h4
      · exact .inl h3
      · exact .inr ⟨j, h4, h2, h3⟩
theorem anyN_congr {p q : Nat → Bool} {i n : Nat} (h : ∀ j, i ≤ j → j < n → p j = q j) : anyN p i n = anyN q i n := by
  rw [Bool.eq_iff_iff, anyN_iff, anyN_iff]
  exact ⟨fun ⟨j, a, b, c⟩ => ⟨j, a, b, h j a b ▸ c⟩, fun ⟨j, a, b, c⟩ => ⟨j, a, b, (h j a b).symm ▸ c⟩⟩

theorem inR_of {x : Int} (h : -9223372036854775808 ≤ x ∧ x ≤ 9223372036854775807) : inR x := h
theorem inR_nat {n : Nat} (h : n ≤ 1000000) : inR ((n : Int) + 1) := by unfold inR; omega
theorem rd_take {α : Type} [Inhabited α] {l : List α} {i j : Nat} (h : j < i) : rd (l.take i) (j : Int) = rd l (j : Int) := by
  simp [rd, List.getD, List.getElem?_take, h]
theorem rd_mem {α : Type} [Inhabited α] {l : List α} {x : Int} (h0 : 0 ≤ x) (h : x < (l.length : Int)) : rd l x ∈ l := by
  have : x.toNat < l.length := by omega
  simp [rd, List.getD, List.getElem?_eq_getElem this]

/-! ### Is there one? -/
def ixb {α : Type} [Inhabited α] (a0 : List α) (a1 : α → Option Bool) (rec0 : Int → Option Int) (x8 : Int) : Option Int :=
  (bif (decide (x8 < (a0.length : Int))) then (if (0 : Int) ≤ x8 ∧ x8 < (a0.length : Int) then ((a1 (rd a0 x8)).bind fun t32 => (bif t32 then (some x8) else (if inR (x8 + 1) then (rec0 (x8 + 1)) else none))) else none) else (some (-1)))
theorem ix_contains {α : Type} [Inhabited α] (l : List α) (f : α → Option Bool) (p : Nat → Bool) (k : Nat) (hk : l.length < k) (hl : l.length ≤ 1000000)
    (hf : ∀ j, j < l.length → f (rd l (j : Int)) = some (p j)) :
    ((loop1 k (ixb l f) 0).bind fun t => some (decide (t ≥ 0))) = some (anyN p 0 l.length) := by
  obtain ⟨r, e, h⟩ := loop1_out (I := fun _ => True) (P := fun i r => decide (r ≥ 0) = anyN p i l.length) (b := ixb l f) l.length
    (fun _ rec => ⟨-1, by simp [ixb], by rw [anyN_end]; decide⟩)
    (fun i hi _ rec ih => by
      rw [anyN_step hi]
      simp only [ixb, hf i hi, Option.bind_some]
      rw [gd (inR_nat (by omega)), gd (by omega)]
      have : decide ((i : Int) < (l.length : Int)) = true := by simp [hi]
      rw [this, cond_true]
      cases hp : p i with
      | true => exact ⟨_, rfl, by simp⟩
      | false => simpa using ih trivial)
    k 0 (Nat.zero_le _) (by omega) trivial
  have e' : loop1 k (ixb l f) 0 = some r := e
  rw [e', Option.bind_some, h]
theorem ContainsFunc_int {k : Nat} (l : List Int) (f : Int → Option Bool) (p : Nat → Bool) (hk : l.length < k) (hl : l.length ≤ 1000000)
    (hf : ∀ j, j < l.length → f (rd l (j : Int)) = some (p j)) : slices_ContainsFunc_int k l f = some (anyN p 0 l.length) := ix_contains l f p k hk hl hf
theorem ContainsFunc_Edge {k : Nat} (l : List Edge) (f : Edge → Option Bool) (p : Nat → Bool) (hk : l.length < k) (hl : l.length ≤ 1000000)
    (hf : ∀ j, j < l.length → f (rd l (j : Int)) = some (p j)) : slices_ContainsFunc_Edge k l f = some (anyN p 0 l.length) := ix_contains l f p k hk hl hf
theorem ContainsFunc_NodeType {k : Nat} (l : List NodeType) (f : NodeType → Option Bool) (p : Nat → Bool) (hk : l.length < k) (hl : l.length ≤ 1000000)
    (hf : ∀ j, j < l.length → f (rd l (j : Int)) = some (p j)) : slices_ContainsFunc_NodeType k l f = some (anyN p 0 l.length) := ix_contains l f p k hk hl hf
theorem ContainsFunc_Attr {k : Nat} (l : List Attr) (f : Attr → Option Bool) (p : Nat → Bool) (hk : l.length < k) (hl : l.length ≤ 1000000)
    (hf : ∀ j, j < l.length → f (rd l (j : Int)) = some (p j)) : slices_ContainsFunc_Attr k l f = some (anyN p 0 l.length) := ix_contains l f p k hk hl hf
theorem ContainsFunc_EdgeType {k : Nat} (l : List EdgeType) (f : EdgeType → Option Bool) (p : Nat → Bool) (hk : l.length < k) (hl : l.length ≤ 1000000)
    (hf : ∀ j, j < l.length → f (rd l (j : Int)) = some (p j)) : slices_ContainsFunc_EdgeType k l f = some (anyN p 0 l.length) := ix_contains l f p k hk hl hf
theorem Contains_string {k : Nat} (l : List Str) (a : Str) (hk : l.length < k) (hl : l.length ≤ 1000000) :
    slices_Contains_string k l a = some (anyN (fun j => a == rd l (j : Int)) 0 l.length) := ix_contains l (fun x => some (a == x)) _ k hk hl (fun _ _ => rfl)
theorem Contains_int {k : Nat} (l : List Int) (a : Int) (hk : l.length < k) (hl : l.length ≤ 1000000) :
    slices_Contains_int k l a = some (anyN (fun j => a == rd l (j : Int)) 0 l.length) := ix_contains l (fun x => some (a == x)) _ k hk hl (fun _ _ => rfl)
end Go.Proofs.YthmdmchmmgmblaaGreat

namespace Go.Proofs.YthmdmchmmgmblaaGreat
open Go Go.Abs

def letterB (c : Int) : Bool := (decide (c ≥ 97) && decide (c ≤ 122)) || (decide (c ≥ 65) && decide (c ≤ 90))
def digitB (c : Int) : Bool := decide (c ≥ 48) && decide (c ≤ 57)
def partB (c : Int) : Bool := (letterB c || digitB c) || c == 95
theorem token_letter_eq {k : Nat} (c : Int) : token_letter k c = some (letterB c) := by
  simp only [token_letter, jn, letterB]
  cases decide (c ≥ 97) <;> cases decide (c ≤ 122) <;> cases decide (c ≥ 65) <;> rfl
theorem ref01_letter_eq {k : Nat} (c : Int) : ref01_letter k c = some (letterB c) := by
  simp only [ref01_letter, jn, letterB]
  cases decide (c ≥ 97) <;> cases decide (c ≤ 122) <;> cases decide (c ≥ 65) <;> rfl
theorem token_digit_eq {k : Nat} (c : Int) : token_digit k c = some (digitB c) := by
  simp only [token_digit, jn, digitB]
  cases decide (c ≥ 48) <;> rfl
theorem ref01_digit_eq {k : Nat} (c : Int) : ref01_digit k c = some (digitB c) := by
  simp only [ref01_digit, jn, digitB]
  cases decide (c ≥ 48) <;> rfl
theorem token_part_eq {k : Nat} (c : Int) : token_part k c = some (partB c) := by
  simp only [token_part, jn, partB, token_letter_eq, token_digit_eq, Option.bind_some]
  cases letterB c <;> cases digitB c <;> rfl
theorem letter_not_digit {c : Int} (h : letterB c = true) : digitB c = false := by
  simp only [letterB, digitB, Bool.or_eq_true, Bool.and_eq_true, decide_eq_true_eq, Bool.and_eq_false_iff, decide_eq_false_iff_not] at *
  omega

def stopF (p : Nat → Bool) : Nat → Nat → Nat
  | i, 0 => i
  | i, d + 1 => bif p i then stopF p (i + 1) d else i
def stopN (p : Nat → Bool) (i n : Nat) : Nat := stopF p i (n - i)
theorem stopN_end {p : Nat → Bool} {n : Nat} : stopN p n n = n := by simp [stopN, stopF]
theorem stopN_step {p : Nat → Bool} {i n : Nat} (h : i < n) : stopN p i n = bif p i then stopN p (i + 1) n else i := by
  have : n - i = (n - (i + 1)) + 1 := by omega
  unfold stopN; rw [this]; rfl
theorem stopF_le {p : Nat → Bool} : ∀ {d i : Nat}, stopF p i d ≤ i + d
  | 0, i => by simp [stopF]
  | d + 1, i => by
    have := stopF_le (p := p) (d := d) (i := i + 1)
    unfold stopF; cases p i <;> simp <;> omega
theorem stopN_le {p : Nat → Bool} {n : Nat} : stopN p 0 n ≤ n := by have := stopF_le (p := p) (d := n) (i := 0); simpa [stopN] using this
theorem stopN_congr {p q : Nat → Bool} {n : Nat} : ∀ {i : Nat}, (∀ j, p j = q j) → stopN p i n = stopN q i n := by
  intro i h; have : p = q := funext h; rw [this]

theorem token_run_eq {k : Nat} (s : Str) (f : Int → Option Bool) (p : Nat → Bool) (hk : s.length < k) (hs : s.length ≤ 1000000)
    (hf : ∀ j, j < s.length → f (bt s (j : Int)) = some (p j)) : token_run k s f = some (stopN p 0 s.length : Int) := by
  refine loop1_eq (fun i => (stopN p i s.length : Int)) s.length (fun rec => ?_) (fun i hi rec ih => ?_) (Nat.zero_le _) (by omega)
  · simp [token_run.b0, jn, stopN_end]
  · rw [stopN_step hi]
    simp only [token_run.b0, jn, hf i hi, Option.bind_some]
    have : decide ((i : Int) < (s.length : Int)) = true := by simp [hi]
    rw [this, cond_true, gd (by omega), gd (inR_nat (by omega))]
    cases p i <;> simp [ih]
theorem ref01_run_eq {k : Nat} (s : Str) (dg : Bool) (hk : s.length < k) (hs : s.length ≤ 1000000) :
    ref01_run k s 0 dg = some (stopN (fun j => digitB (bt s (j : Int)) || (!dg && (letterB (bt s (j : Int)) || (bt s (j : Int)) == 95))) 0 s.length : Int) := by
  refine loop1_eq (fun i => (stopN _ i s.length : Int)) s.length (fun rec => ?_) (fun i hi rec ih => ?_) (Nat.zero_le _) (by omega)
  · simp only [ref01_run.b0, jn, stopN_end, Int.zero_add]
    rw [gd (inR_of (by omega))]
    simp
  · rw [stopN_step hi]
    have : decide ((i : Int) < (s.length : Int)) = true := by simp [hi]
    have h1 : inR (i : Int) := inR_of (by omega)
    have h2 : (0 : Int) ≤ (i : Int) ∧ (i : Int) < (s.length : Int) := by omega
    simp only [ref01_run.b0, jn, Int.zero_add, gd h1, gd h2, this, cond_true, ref01_digit_eq, ref01_letter_eq, Option.bind_some, gd (inR_nat (n := i) (by omega)), ih]
    cases digitB (bt s (i : Int)) <;> cases dg <;> cases letterB (bt s (i : Int)) <;> cases (bt s (i : Int) == 95) <;> rfl

def isNameB (s : Str) : Bool := (s != []) && (letterB (bt s 0) && (decide (stopN (fun j => partB (bt s (j : Int))) 0 s.length ≤ 20) && stopN (fun j => partB (bt s (j : Int))) 0 s.length == s.length))

theorem token_quoted_out {k : Nat} (s : Str) (h0 : 1 ≤ s.length) (hk : s.length < k) (hs : s.length ≤ 1000000) : Out (token_quoted k s) (fun _ => True) := by
  unfold token_quoted
  rw [gd (by omega)]
  have hd : (s.drop (1 : Int).toNat).length = s.length - 1 := by simp
  refine Out.bind (P := fun r => 0 ≤ r ∧ r ≤ (s.length : Int) - 1) ⟨_, token_run_eq (p := fun j => (decide (bt (s.drop (1 : Int).toNat) (j : Int) ≥ 32) && (decide (bt (s.drop (1 : Int).toNat) (j : Int) ≤ 126) && (bt (s.drop (1 : Int).toNat) (j : Int)) != 34))) _ _ (by omega) (by omega) (fun j _ => ?_), ?_⟩ fun r hr => ?_
  · simp only [token_quoted_1, jn]
    cases decide (bt (s.drop (1 : Int).toNat) (j : Int) ≥ 32) <;> cases decide (bt (s.drop (1 : Int).toNat) (j : Int) ≤ 126) <;> rfl
  · refine ⟨by omega, ?_⟩
    have h := stopN_le (p := fun j => (decide (bt (s.drop (1 : Int).toNat) (j : Int) ≥ 32) && (decide (bt (s.drop (1 : Int).toNat) (j : Int) ≤ 126) && (bt (s.drop (1 : Int).toNat) (j : Int)) != 34))) (n := (s.drop (1 : Int).toNat).length)
    rw [hd] at h ⊢
    omega
  · simp only [jn]
    rw [gd (inR_of (by omega))]
    cases hb : (1 + r == (s.length : Int)) with
    | true => exact ⟨_, rfl, trivial⟩
    | false =>
      have : 1 + r ≠ (s.length : Int) := by simpa using hb
      rw [cond_false, gd (inR_of (by omega)), gd (by omega)]
      cases (bt s (1 + r) != 34) with
      | true => exact ⟨_, rfl, trivial⟩
      | false =>
        rw [cond_false]
        cases decide (r > 60) with
        | true => exact ⟨_, rfl, trivial⟩
        | false => rw [cond_false, gd (inR_of (by omega))]; exact ⟨_, rfl, trivial⟩
theorem token_pair_out {k : Nat} (s : Str) (hk : 10 ≤ k) : Out (token_pair k s) (fun _ => True) := by
  unfold token_pair; simp only [jn]
  cases hb : decide ((s.length : Int) ≥ 2) with
  | false => exact ⟨_, rfl, trivial⟩
  | true =>
    simp at hb
    rw [cond_true, gd (by omega), Contains_string _ _ (by simp; omega) (by simp)]
    exact ⟨_, rfl, trivial⟩
theorem token_next_out {k : Nat} (s : Str) (h0 : 1 ≤ s.length) (hk : s.length < k) (hk' : 10 ≤ k) (hs : s.length ≤ 1000000) (hl : letterB (bt s 0) = false) :
    Out (token_next k s) (fun r => r.2.2 ≠ 0 ∨ r.1 ≠ 1) := by
  unfold token_next
  rw [gd (by omega), token_letter_eq, Option.bind_some, hl, cond_false, token_digit_eq, Option.bind_some]
  cases digitB (bt s 0) with
  | true =>
    rw [cond_true, token_run_eq (p := fun j => digitB (bt s (j : Int))) _ _ hk hs (fun j _ => token_digit_eq _), Option.bind_some]
    cases decide ((stopN (fun j => digitB (bt s (j : Int))) 0 s.length : Int) > 9)
    · exact ⟨_, rfl, .inr (by simp)⟩
    · exact ⟨_, rfl, .inl (by simp)⟩
  | false =>
    rw [cond_false]
    cases (bt s 0 == 34) with
    | true => rw [cond_true]; exact Out.bind (token_quoted_out s h0 hk hs) fun r _ => ⟨_, rfl, .inr (by simp)⟩
    | false =>
      rw [cond_false]
      refine Out.bind (token_pair_out s hk') fun r _ => ?_
      cases r with
      | true => exact ⟨_, rfl, .inr (by simp)⟩
      | false =>
        simp only [cond_false, strings_IndexByte, stringslite_IndexByte, Option.bind_some]
        generalize decide (_ ≥ (0 : Int)) = b
        cases b
        · exact ⟨_, rfl, .inl (by decide)⟩
        · exact ⟨_, rfl, .inr (by decide)⟩

theorem token_IsName_eq {k : Nat} (hk : 200 ≤ k) (s : Str) (hs : s.length ≤ 100) : token_IsName k s = some (isNameB s) := by
  unfold token_IsName token_whole jn; dsimp only
  rw [show ((1 : Int) == 3) = false from rfl, cond_false]
  cases s with
  | nil => simp [isNameB]
  | cons c t =>
    rw [show (((c :: t : Str) == ([] : Str))) = false from rfl, cond_false]
    generalize hS : (c :: t : Str) = s at *
    have h0 : 1 ≤ s.length := by subst hS; simp
    have hne : (s != []) = true := by subst hS; rfl
    cases hl : letterB (bt s 0) with
    | true =>
      unfold token_next
      rw [gd (by omega), token_letter_eq, Option.bind_some, hl, cond_true, token_run_eq (p := fun j => partB (bt s (j : Int))) _ _ (by omega) (by omega) (fun j _ => token_part_eq _), Option.bind_some]
      simp only [isNameB, hne, hl, Bool.true_and]
      by_cases hg : stopN (fun j => partB (bt s (j : Int))) 0 s.length ≤ 20
      · have h1 : decide ((stopN (fun j => partB (bt s (j : Int))) 0 s.length : Int) > 20) = false := by simp; omega
        rw [h1, cond_false, decide_eq_true hg]
        simp only [Option.bind_some, Bool.true_and, beq_self_eq_true, cond_true]
        congr 1
        rw [Bool.eq_iff_iff, beq_iff_eq, beq_iff_eq]; omega
      · have h1 : decide ((stopN (fun j => partB (bt s (j : Int))) 0 s.length : Int) > 20) = true := by simp; omega
        rw [h1, cond_true, decide_eq_false hg]
        rfl
    | false =>
      obtain ⟨r, e, h⟩ := token_next_out (k := k) s h0 (by omega) (by omega) (by omega) hl
      rw [e, Option.bind_some]
      simp only [isNameB, hne, hl, Bool.true_and, Bool.false_and]
      rcases h with h | h
      · have : (r.2.2 == 0) = false := by simp [h]
        rw [this]; rfl
      · have : (r.1 == 1) = false := by simp [h]
        rw [this]; cases (r.2.2 == 0) <;> rfl

theorem ref01_quoted_out {k : Nat} (s : Str) (h0 : 1 ≤ s.length) (hk : s.length < k) (hs : s.length ≤ 1000000) : Out (ref01_quoted k s 0) (fun r => r = 0 ∨ (2 ≤ r ∧ r ≤ (s.length : Int))) := by
  refine loop1_out (I := fun i => 1 ≤ i) (P := fun _ r => r = 0 ∨ (2 ≤ r ∧ r ≤ (s.length : Int))) s.length (fun _ rec => ?_) (fun i hi h1 rec ih => ?_) k 1 h0 (by omega) (by omega)
  · simp only [ref01_quoted.b0, jn, Int.zero_add]
    rw [gd (inR_of (by omega))]
    refine ⟨0, by simp, .inl rfl⟩
  · have : decide ((i : Int) < (s.length : Int)) = true := by simp [hi]
    have g1 : inR (i : Int) := inR_of (by omega)
    have g2 : (0 : Int) ≤ (i : Int) ∧ (i : Int) < (s.length : Int) := by omega
    simp only [ref01_quoted.b0, jn, Int.zero_add, gd g1, gd g2, this, cond_true, gd (inR_nat (n := i) (by omega))]
    cases (bt s (i : Int) == 34) with
    | true => exact ⟨_, rfl, .inr (by omega)⟩
    | false =>
      rw [cond_false]
      cases decide (bt s (i : Int) < 32) with
      | true => exact ⟨_, rfl, .inl rfl⟩
      | false =>
        cases decide (bt s (i : Int) > 126) with
        | true => exact ⟨_, rfl, .inl rfl⟩
        | false => exact ih (by omega)
theorem ref01_one_out {k : Nat} (s : Str) (h0 : 1 ≤ s.length) (hk : s.length < k) (hk' : 100 ≤ k) (hs : s.length ≤ 1000000) (hl : letterB (bt s 0) = false) :
    Out (ref01_one k s 0) (fun r => r.2.2 ≠ 0 ∨ r.1.fKind ≠ 1) := by
  unfold ref01_one; simp only [jn]
  rw [gd (by omega)]
  simp only [ref01_letter_eq, ref01_digit_eq, Option.bind_some, hl, cond_false]
  cases hd : digitB (bt s 0) with
  | true =>
    rw [cond_true, ref01_run_eq _ _ hk hs, Option.bind_some]
    have hle := stopN_le (p := fun j => digitB (bt s (j : Int)) || (!true && (letterB (bt s (j : Int)) || (bt s (j : Int)) == 95))) (n := s.length)
    generalize hn : stopN (fun j => digitB (bt s (j : Int)) || (!true && (letterB (bt s (j : Int)) || (bt s (j : Int)) == 95))) 0 s.length = n at *
    rw [cond_true]
    cases decide ((n : Int) > 9) with
    | true => exact ⟨_, rfl, .inl (by simp)⟩
    | false =>
      rw [cond_false, gd (inR_of (by omega)), gd (by omega)]
      exact ⟨_, rfl, .inr (by simp)⟩
  | false =>
    rw [cond_false]
    cases (bt s 0 == 34) with
    | true =>
      rw [cond_true]
      refine Out.bind (ref01_quoted_out s h0 hk hs) fun r hr => ?_
      cases hz : (r == 0) with
      | true => exact ⟨_, rfl, .inl (by simp)⟩
      | false =>
        have hz' : r ≠ 0 := by simpa using hz
        rw [cond_false, gd (inR_of (by omega))]
        cases decide (r - 2 > 60) with
        | true => exact ⟨_, rfl, .inl (by simp)⟩
        | false =>
          rw [cond_false, gd (inR_of (by omega)), gd (inR_of (by omega)), gd (inR_of (by omega)), gd (by omega)]
          exact ⟨_, rfl, .inr (by simp)⟩
    | false =>
      rw [cond_false, ref01_signs, Option.bind_some]
      generalize hL : ([([45, 62] : Str), ([60, 61] : Str), ([62, 61] : Str), ([61, 61] : Str), ([33, 61] : Str), ([123] : Str), ([125] : Str), ([40] : Str), ([41] : Str), ([91] : Str), ([93] : Str), ([44] : Str), ([59] : Str), ([58] : Str), ([61] : Str), ([43] : Str), ([45] : Str), ([42] : Str), ([60] : Str), ([62] : Str), ([33] : Str), ([38] : Str), ([124] : Str), ([46] : Str), ([63] : Str)] : List Str) = L
      have hLl : L.length = 25 := by subst hL; rfl
      have hLe : ∀ x ∈ L, x.length ≤ 2 := by subst hL; decide
      refine loop1_out (I := fun _ => True) (P := fun _ (r : Token × Int × Int) => r.2.2 ≠ 0 ∨ r.1.fKind ≠ 1) L.length (fun _ rec => ?_) (fun i hi h1 rec ih => ?_) k 0 (Nat.zero_le _) (by omega) trivial
      · exact ⟨(Token.mk 0 [] 0, 0, 2), by simp [ref01_one.b0], .inl (by simp)⟩
      · have : decide ((i : Int) < (L.length : Int)) = true := by simp [hi]
        have g2 : (0 : Int) ≤ (i : Int) ∧ (i : Int) < (L.length : Int) := by omega
        have g3 := hLe _ (rd_mem g2.1 g2.2)
        have g4 : inR ((rd L (i : Int)).length : Int) := inR_of (by omega)
        simp only [ref01_one.b0, jn, Int.zero_add, gd g2, this, cond_true, gd (inR_nat (n := i) (by omega)), gd g4]
        cases hb : decide (((rd L (i : Int)).length : Int) ≤ (s.length : Int)) with
        | false => rw [cond_false, cond_false]; exact ih trivial
        | true =>
          have hb' : ((rd L (i : Int)).length : Int) ≤ (s.length : Int) := by simpa using hb
          rw [cond_true, gd (by omega)]
          generalize (List.drop _ (s.take _) == rd L (i : Int)) = q
          cases q with
          | true => exact ⟨_, rfl, .inr (by simp)⟩
          | false => exact ih trivial
theorem ref01_IsName_eq {k : Nat} (hk : 200 ≤ k) (s : Str) (hs : s.length ≤ 100) : ref01_IsName k s = some (isNameB s) := by
  unfold ref01_IsName ref01_Right ref01_text
  rw [show ((1 : Int) == 3) = false from rfl, cond_false, Option.bind_some]
  cases s with
  | nil => simp [isNameB]
  | cons c t =>
    rw [show (((c :: t : Str) == ([] : Str))) = false from rfl, cond_false]
    generalize hS : (c :: t : Str) = s at *
    have h0 : 1 ≤ s.length := by subst hS; simp
    have hne : (s != []) = true := by subst hS; rfl
    cases hl : letterB (bt s 0) with
    | true =>
      unfold ref01_one; simp only [jn]
      rw [gd (by omega)]
      simp only [ref01_letter_eq, ref01_digit_eq, Option.bind_some, hl, cond_true, letter_not_digit hl, cond_false]
      rw [ref01_run_eq _ _ (by omega) (by omega), Option.bind_some]
      have hc := stopN_congr (p := fun j => digitB (bt s (j : Int)) || (!false && (letterB (bt s (j : Int)) || (bt s (j : Int)) == 95))) (q := fun j => partB (bt s (j : Int))) (n := s.length) (i := 0)
        (fun j => by simp only [partB]; cases digitB (bt s (j : Int)) <;> cases letterB (bt s (j : Int)) <;> rfl)
      rw [hc]
      have hle := stopN_le (p := fun j => partB (bt s (j : Int))) (n := s.length)
      simp only [isNameB, hne, hl, Bool.true_and]
      generalize stopN (fun j => partB (bt s (j : Int))) 0 s.length = n at *
      by_cases hg : n ≤ 20
      · have h1 : decide ((n : Int) > 20) = false := by simp; omega
        rw [h1, cond_false, decide_eq_true hg, gd (inR_of (by omega)), gd (by omega)]
        simp only [Option.bind_some, Bool.true_and, beq_self_eq_true, cond_true]
        have h2 : ((n : Int) == (s.length : Int)) = (n == s.length) := by rw [Bool.eq_iff_iff, beq_iff_eq, beq_iff_eq]; omega
        rw [h2]; cases (n == s.length) <;> rfl
      · have h1 : decide ((n : Int) > 20) = true := by simp; omega
        rw [h1, cond_true, decide_eq_false hg]
        rfl
    | false =>
      obtain ⟨r, e, h⟩ := ref01_one_out (k := k) s h0 (by omega) (by omega) (by omega) hl
      rw [e, Option.bind_some]
      simp only [jn, isNameB, hne, hl, Bool.true_and, Bool.false_and]
      rcases h with h | h
      · have : (r.2.2 == 0) = false := by simp [h]
        rw [this]; rfl
      · have : (r.1.fKind == 1) = false := by simp [h]
        rw [this]; cases (r.2.2 == 0) <;> cases (r.2.1 == (s.length : Int)) <;> rfl
end Go.Proofs.YthmdmchmmgmblaaGreat

namespace Go.Proofs.YthmdmchmmgmblaaGreat
open Go Go.Abs

structure FewA (x : Attr) : Prop where
  name : x.fName.length ≤ 40
  names : x.fNames.length ≤ 25
  each : ∀ s ∈ x.fNames, s.length ≤ 40
structure FewT (t : Types) : Prop where
  nodes : t.fNodes.length ≤ 20
  edges : t.fEdges.length ≤ 30
  nname : ∀ n ∈ t.fNodes, n.fName.length ≤ 40
  nattr : ∀ n ∈ t.fNodes, n.fAttrs.length ≤ 30
  attr : ∀ n ∈ t.fNodes, ∀ x ∈ n.fAttrs, FewA x
  ename : ∀ x ∈ t.fEdges, x.fName.length ≤ 40

def namesErr (l : List Str) (i : Nat) : Int := bif !isNameB (rd l (i : Int)) then 2 else bif anyN (fun j => rd l (j : Int) == rd l (i : Int)) 0 i then 5 else 0
def namesS (l : List Str) : Int := bif decide ((l.length : Int) > 20) then 3 else scan (namesErr l) 0 l.length
theorem types_names_eq {k : Nat} (hk : 200 ≤ k) (l : List Str) (hl : ∀ s ∈ l, s.length ≤ 100) : types_names k l = some (namesS l) := by
  unfold types_names namesS
  cases hb : decide ((l.length : Int) > 20) with
  | true => rfl
  | false =>
    simp at hb
    rw [cond_false, cond_false]
    refine loop1_eq (fun i => scan (namesErr l) i l.length) l.length (fun rec => ?_) (fun i hi rec ih => ?_) (Nat.zero_le _) (by omega)
    · simp [types_names.b0, scan_end]
    · rw [scan_step hi]
      have h1 : decide ((i : Int) < (l.length : Int)) = true := by simp [hi]
      have h2 : (0 : Int) ≤ (i : Int) ∧ (i : Int) < (l.length : Int) := by omega
      have h3 : (l.take (i : Int).toNat).length = i := by simp; omega
      have h4 := token_IsName_eq (k := k) hk (rd l (i : Int)) (hl _ (rd_mem h2.1 h2.2))
      have h5 := Contains_string (k := k) (l.take (i : Int).toNat) (rd l (i : Int)) (by omega) (by omega)
      rw [h3] at h5
      rw [anyN_congr (q := fun j => rd l (j : Int) == rd l (i : Int)) (fun j _ hj => by rw [show (i : Int).toNat = i from rfl, rd_take hj, Bool.beq_comm])] at h5
      simp only [types_names.b0, h1, cond_true, gd h2, h4, Option.bind_some, gd (show (0 : Int) ≤ (i : Int) ∧ (i : Int) ≤ (l.length : Int) by omega), h5, gd (inR_nat (n := i) (by omega)), ih, namesErr]
      cases isNameB (rd l (i : Int)) <;> cases anyN (fun j => rd l (j : Int) == rd l (i : Int)) 0 i <;> rfl
theorem ref04_names_eq {k : Nat} (hk : 200 ≤ k) (l : List Str) (hl : ∀ s ∈ l, s.length ≤ 100) : ref04_names k l = some (namesS l) := by
  unfold ref04_names namesS
  cases hb : decide ((l.length : Int) > 20) with
  | true => rfl
  | false =>
    simp at hb
    rw [cond_false, cond_false]
    refine loop1_eq (fun i => scan (namesErr l) i l.length) l.length (fun rec => ?_) (fun i hi rec ih => ?_) (Nat.zero_le _) (by omega)
    · simp only [ref04_names.b0, scan_end, show decide ((l.length : Int) < (l.length : Int)) = false by simp, cond_false]
    · rw [scan_step hi]
      have h1 : decide ((i : Int) < (l.length : Int)) = true := by simp [hi]
      have h2 : (0 : Int) ≤ (i : Int) ∧ (i : Int) < (l.length : Int) := by omega
      have h4 := ref01_IsName_eq (k := k) hk (rd l (i : Int)) (hl _ (rd_mem h2.1 h2.2))
      have h5 : loop1 k (ref04_names.b1 l (i : Int) rec) ((0 : Nat) : Int) = some (bif anyN (fun j => rd l (j : Int) == rd l (i : Int)) 0 i then 5 else scan (namesErr l) (i + 1) l.length) := by
        refine loop1_eq (fun j => bif anyN (fun j => rd l (j : Int) == rd l (i : Int)) j i then 5 else scan (namesErr l) (i + 1) l.length) i (fun rec1 => ?_) (fun j hj rec1 ih1 => ?_) (Nat.zero_le _) (by omega)
        · simp only [ref04_names.b1, anyN_end, cond_false, gd (inR_nat (n := i) (by omega)), ih, show decide ((i : Int) < (i : Int)) = false by simp]
        · rw [anyN_step hj, ref04_names.b1, show decide ((j : Int) < (i : Int)) = true by simp [hj], cond_true, gd (show (0 : Int) ≤ (j : Int) ∧ (j : Int) < (l.length : Int) by omega), gd h2, gd (inR_nat (n := j) (by omega)), ih1]
          cases (rd l (j : Int) == rd l (i : Int)) with
          | true => rw [cond_true, Bool.true_or, cond_true]
          | false => rw [cond_false, Bool.false_or]
      have h6 : loop1 k (ref04_names.b1 l (i : Int) rec) 0 = _ := h5
      simp only [ref04_names.b0, h1, cond_true, gd h2, h4, Option.bind_some, h6, namesErr]
      cases isNameB (rd l (i : Int)) <;> cases anyN (fun j => rd l (j : Int) == rd l (i : Int)) 0 i <;> simp

def attrOwn (x : Attr) : Int :=
  bif namesS x.fNames != 0 then namesS x.fNames
  else bif decide ((x.fNames.length : Int) > 0) then (bif x.fLow == 0 && x.fHigh == (x.fNames.length : Int) - 1 then 0 else 6)
  else (bif decide (-1000000 ≤ x.fLow) && (decide (x.fLow ≤ x.fHigh) && decide (x.fHigh ≤ 1000000)) then 0 else 6)
def attrErr (all : List Attr) (i : Nat) : Int :=
  bif !isNameB (rd all (i : Int)).fName then 2 else bif anyN (fun j => (rd all (j : Int)).fName == (rd all (i : Int)).fName) 0 i then 5 else attrOwn (rd all (i : Int))
theorem types_attribute_eq {k : Nat} (hk : 200 ≤ k) (all : List Attr) (i : Nat) (hi : i < all.length) (hl : all.length ≤ 100) (hf : FewA (rd all (i : Int))) :
    types_attribute k (rd all (i : Int)) (all.take (i : Int).toNat) = some (attrErr all i) := by
  have h3 : (all.take (i : Int).toNat).length = i := by simp; omega
  have h4 := token_IsName_eq (k := k) hk (rd all (i : Int)).fName (by have := hf.name; omega)
  have h5 := ContainsFunc_Attr (k := k) (all.take (i : Int).toNat) (fun x => types_attribute_1 k x (rd all (i : Int))) _ (by omega) (by omega) (fun j _ => rfl)
  rw [h3, anyN_congr (q := fun j => (rd all (j : Int)).fName == (rd all (i : Int)).fName) (fun j _ hj => by rw [show (i : Int).toNat = i from rfl, rd_take hj])] at h5
  have h6 := types_names_eq (k := k) hk (rd all (i : Int)).fNames (fun s hs => by have := hf.each s hs; omega)
  unfold types_attribute attrErr attrOwn
  rw [h4, Option.bind_some, h5, Option.bind_some, h6, Option.bind_some]
  generalize rd all (i : Int) = x at *
  have hn := hf.names
  cases isNameB x.fName with
  | false => rfl
  | true =>
    cases anyN (fun j => (rd all (j : Int)).fName == x.fName) 0 i with
    | true => rfl
    | false =>
      cases hz : namesS x.fNames != 0 with
      | true => rfl
      | false =>
        simp only [jn, Bool.not_true, cond_false]
        cases decide ((x.fNames.length : Int) > 0) with
        | true =>
          simp only [cond_true, gd (inR_of (x := (x.fNames.length : Int) - 1) (by omega))]
          cases decide (-1000000 ≤ x.fLow) <;> cases decide (x.fLow ≤ x.fHigh) <;> cases (x.fLow == 0) <;> cases (x.fHigh == (x.fNames.length : Int) - 1) <;> rfl
        | false =>
          cases decide (-1000000 ≤ x.fLow) <;> cases decide (x.fLow ≤ x.fHigh) <;> cases decide (x.fHigh ≤ 1000000) <;> rfl
theorem ref04_in_eq {k : Nat} (a b c : Int) : ref04_in k a b c = some (decide (a ≥ b) && decide (a ≤ c)) := by
  simp only [ref04_in, jn]; cases decide (a ≥ b) <;> rfl
theorem ref04_attribute_eq {k : Nat} (hk : 200 ≤ k) (x : Attr) (hf : FewA x) : ref04_attribute k x = some (attrOwn x) := by
  have h6 := ref04_names_eq (k := k) hk x.fNames (fun s hs => by have := hf.each s hs; omega)
  unfold ref04_attribute attrOwn
  simp only [h6, jn, ref04_in_eq, Option.bind_some]
  have hn := hf.names
  cases hz : ((x.fNames.length : Int) == 0) with
  | true =>
    have hz' : x.fNames = [] := by
      have : (x.fNames.length : Int) = 0 := by simpa using hz
      exact List.length_eq_zero_iff.1 (by omega)
    rw [hz']
    have : namesS [] = 0 := rfl
    rw [this]
    simp only [bne_self_eq_false, cond_false, cond_true, List.length_nil]
    rw [show decide ((((0 : Nat) : Int)) > 0) = false from rfl, cond_false]
    by_cases h1 : -1000000 ≤ x.fLow <;> by_cases h2 : x.fLow ≤ 1000000 <;> by_cases h3 : x.fLow ≤ x.fHigh <;> by_cases h4 : x.fHigh ≤ 1000000 <;> simp [h1, h2, h3, h4] <;> omega
  | false =>
    have hz' : (x.fNames.length : Int) ≠ 0 := by simpa using hz
    rw [cond_false, decide_eq_true (show (x.fNames.length : Int) > 0 by omega), cond_true, gd (inR_of (x := (x.fNames.length : Int) - 1) (by omega))]
    cases (namesS x.fNames != 0) with
    | true => rfl
    | false =>
      simp only [cond_false, bne]
      cases (x.fLow == 0) <;> cases (x.fHigh == (x.fNames.length : Int) - 1) <;> rfl

def attrsS (ns : List NodeType) : Nat → Int → List Attr
  | 0, _ => []
  | d + 1, a => bif decide (a < 0) then [] else attrsS ns d (rd ns a).fParent ++ (rd ns a).fAttrs
def WfP (ns : List NodeType) (n : Nat) : Prop := n ≤ ns.length ∧ ∀ j : Nat, j < n → -1 ≤ (rd ns (j : Int)).fParent ∧ (rd ns (j : Int)).fParent < (j : Int)
theorem attrsS_neg {ns : List NodeType} {d : Nat} {a : Int} (h : a < 0) : attrsS ns d a = [] := by cases d <;> simp [attrsS, h]
theorem attrsS_pos {ns : List NodeType} {d : Nat} {a : Int} (h : 0 ≤ a) : attrsS ns (d + 1) a = attrsS ns d (rd ns a).fParent ++ (rd ns a).fAttrs := by
  have : decide (a < 0) = false := by simp; omega
  simp [attrsS, this]
theorem wf_at {ns : List NodeType} {n : Nat} (w : WfP ns n) {a : Int} (h0 : 0 ≤ a) (h : a < (n : Int)) : -1 ≤ (rd ns a).fParent ∧ (rd ns a).fParent < a := by
  have := w.2 a.toNat (by omega)
  rwa [Int.toNat_of_nonneg h0] at this
theorem attrsS_len {ns : List NodeType} {n : Nat} (w : WfP ns n) (hn : ∀ x ∈ ns, x.fAttrs.length ≤ 30) : ∀ (d : Nat) (a : Int), a < (n : Int) → (attrsS ns d a).length ≤ 30 * d
  | 0, _, _ => by simp [attrsS]
  | d + 1, a, h => by
    rcases Int.lt_or_le a 0 with ha | ha
    · rw [attrsS_neg ha]; simp
    · have hw := wf_at w ha h
      have hm := hn _ (rd_mem (l := ns) ha (by have := w.1; omega))
      have ih := attrsS_len w hn d (rd ns a).fParent (by omega)
      rw [attrsS_pos ha, List.length_append]
      omega
theorem attrsS_all {ns : List NodeType} {n : Nat} {G : Attr → Prop} (w : WfP ns n) (hn : ∀ x ∈ ns, ∀ a ∈ x.fAttrs, G a) : ∀ (d : Nat) (a : Int), a < (n : Int) → ∀ x ∈ attrsS ns d a, G x
  | 0, _, _ => by simp [attrsS]
  | d + 1, a, h => by
    rcases Int.lt_or_le a 0 with ha | ha
    · rw [attrsS_neg ha]; simp
    · have hw := wf_at w ha h
      have ih := attrsS_all w hn d (rd ns a).fParent (by omega)
      rw [attrsS_pos ha]
      intro x hx
      rcases List.mem_append.1 hx with hx | hx
      · exact ih x hx
      · exact hn _ (rd_mem (l := ns) ha (by have := w.1; omega)) x hx
theorem types_attrs_eq {t : Types} {n : Nat} (w : WfP t.fNodes n) (hn : ∀ x ∈ t.fNodes, x.fAttrs.length ≤ 30) : ∀ (d k : Nat) (a : Int), d ≤ 1000 → d ≤ k → 0 ≤ a → a < (d : Int) → a < (n : Int) →
    types_attrs k t a = some (attrsS t.fNodes d a)
  | 0, _, _, _, _, h0, h1, _ => by omega
  | d + 1, 0, _, _, hk, _, _, _ => by omega
  | d + 1, k + 1, a, hd, hk, h0, h1, h2 => by
    have hw := wf_at w h0 h2
    have g : (0 : Int) ≤ a ∧ a < (t.fNodes.length : Int) := ⟨h0, by have := w.1; omega⟩
    have hm := hn _ (rd_mem g.1 g.2)
    have hl := attrsS_len w hn d (rd t.fNodes a).fParent (by omega)
    rw [attrsS_pos h0]
    unfold types_attrs types_attrs.main
    simp only [jn, gd g]
    cases hp : decide ((rd t.fNodes a).fParent ≥ 0) with
    | true =>
      have hp' : (rd t.fNodes a).fParent ≥ 0 := by simpa using hp
      rw [cond_true, types_attrs_eq w hn d k _ (by omega) (by omega) hp' (by omega) (by omega), Option.bind_some, gd (by unfold lim; omega)]
    | false =>
      have hp' : (rd t.fNodes a).fParent < 0 := by have : ¬ (rd t.fNodes a).fParent ≥ 0 := by simpa using hp
                                                   omega
      rw [cond_false, attrsS_neg hp', gd (by simp [lim]; omega)]
theorem ref04_attrs_eq {t : Types} {n : Nat} (w : WfP t.fNodes n) (hn : ∀ x ∈ t.fNodes, x.fAttrs.length ≤ 30) : ∀ (d k : Nat) (a : Int), d ≤ 1000 → d < k → a < (d : Int) → a < (n : Int) →
    ref04_attrs k t a = some (attrsS t.fNodes d a)
  | d, 0, _, _, hk, _, _ => by omega
  | 0, k + 1, a, _, _, h1, _ => by
    unfold ref04_attrs ref04_attrs.main
    rw [decide_eq_true (show a < 0 by omega)]; rfl
  | d + 1, k + 1, a, hd, hk, h1, h2 => by
    unfold ref04_attrs ref04_attrs.main
    rcases Int.lt_or_le a 0 with ha | ha
    · rw [decide_eq_true ha, attrsS_neg ha]; rfl
    · have hw := wf_at w ha h2
      have g : (0 : Int) ≤ a ∧ a < (t.fNodes.length : Int) := ⟨ha, by have := w.1; omega⟩
      have hm := hn _ (rd_mem g.1 g.2)
      have hl := attrsS_len w hn d (rd t.fNodes a).fParent (by omega)
      rw [decide_eq_false (show ¬ a < 0 by omega), cond_false, attrsS_pos ha, gd g, ref04_attrs_eq w hn d k _ (by omega) (by omega) (by omega) (by omega), Option.bind_some, gd (by unfold lim; omega), gd g, gd (by unfold lim; omega)]

def nodeErr (t : Types) (i : Nat) : Int :=
  bif !isNameB (rd t.fNodes (i : Int)).fName then 2
  else bif anyN (fun j => (rd t.fNodes (j : Int)).fName == (rd t.fNodes (i : Int)).fName) 0 i then 5
  else bif decide ((rd t.fNodes (i : Int)).fParent < -1) || decide ((rd t.fNodes (i : Int)).fParent ≥ (i : Int)) then 6
  else bif decide (((rd t.fNodes (i : Int)).fAttrs.length : Int) > 4) then 3
  else bif decide (((attrsS t.fNodes 100 (i : Int)).length : Int) > 8) then 3
  else scan (attrErr (attrsS t.fNodes 100 (i : Int))) ((attrsS t.fNodes 100 (i : Int)).length - (rd t.fNodes (i : Int)).fAttrs.length) (attrsS t.fNodes 100 (i : Int)).length
theorem wf_succ {ns : List NodeType} {i : Nat} (w : WfP ns i) (hi : i < ns.length) (h : -1 ≤ (rd ns (i : Int)).fParent ∧ (rd ns (i : Int)).fParent < (i : Int)) : WfP ns (i + 1) :=
  ⟨hi, fun j hj => by rcases Nat.lt_succ_iff_lt_or_eq.1 hj with hj | rfl
                      · exact w.2 j hj
                      · exact h⟩
theorem nodeErr_wf {t : Types} {i : Nat} (w : WfP t.fNodes i) (hi : i < t.fNodes.length) (h : nodeErr t i = 0) : WfP t.fNodes (i + 1) := by
  refine wf_succ w hi ?_
  unfold nodeErr at h
  cases h1 : isNameB (rd t.fNodes (i : Int)).fName
  · rw [h1] at h; simp at h
  cases h2 : anyN (fun j => (rd t.fNodes (j : Int)).fName == (rd t.fNodes (i : Int)).fName) 0 i
  · rw [h1, h2] at h
    simp only [Bool.not_true, cond_false] at h
    cases hp : decide ((rd t.fNodes (i : Int)).fParent < -1) || decide ((rd t.fNodes (i : Int)).fParent ≥ (i : Int)) with
    | true => rw [hp] at h; simp at h
    | false =>
      simp only [Bool.or_eq_false_iff, decide_eq_false_iff_not] at hp
      omega
  · rw [h1, h2] at h; simp at h

theorem types_node_eq {k : Nat} (hk : 200 ≤ k) {t : Types} (ht : FewT t) {i : Nat} (hi : i < t.fNodes.length) (w : WfP t.fNodes i) : types_node k t (i : Int) = some (nodeErr t i) := by
  have h20 := ht.nodes
  have h1 : (0 : Int) ≤ (i : Int) ∧ (i : Int) < (t.fNodes.length : Int) := by omega
  have hm := rd_mem h1.1 h1.2
  have h3 : (t.fNodes.take (i : Int).toNat).length = i := by simp; omega
  have h4 := token_IsName_eq (k := k) hk (rd t.fNodes (i : Int)).fName (by have := ht.nname _ hm; omega)
  have h5 := ContainsFunc_NodeType (k := k) (t.fNodes.take (i : Int).toNat) (fun x => types_node_1 k x (rd t.fNodes (i : Int))) _ (by omega) (by omega) (fun j _ => rfl)
  rw [h3, anyN_congr (q := fun j => (rd t.fNodes (j : Int)).fName == (rd t.fNodes (i : Int)).fName) (fun j _ hj => by rw [show (i : Int).toNat = i from rfl, rd_take hj])] at h5
  unfold types_node nodeErr
  rw [gd h1, h4, Option.bind_some]
  cases isNameB (rd t.fNodes (i : Int)).fName with
  | false => rfl
  | true =>
    rw [Bool.not_true, cond_false, cond_false, gd (by omega), h5, Option.bind_some]
    cases anyN (fun j => (rd t.fNodes (j : Int)).fName == (rd t.fNodes (i : Int)).fName) 0 i with
    | true => rfl
    | false =>
      simp only [cond_false, jn]
      cases hp1 : decide ((rd t.fNodes (i : Int)).fParent < -1) with
      | true => rfl
      | false =>
        cases hp2 : decide ((rd t.fNodes (i : Int)).fParent ≥ (i : Int)) with
        | true => rfl
        | false =>
          simp only [decide_eq_false_iff_not] at hp1 hp2
          have w' := wf_succ w hi (by omega)
          have ha := types_attrs_eq w' ht.nattr 100 k (i : Int) (by omega) (by omega) (by omega) (by omega) (by omega)
          have hall := attrsS_all w' ht.attr 100 (i : Int) (by omega)
          have hlen : (rd t.fNodes (i : Int)).fAttrs.length ≤ (attrsS t.fNodes 100 (i : Int)).length := by rw [attrsS_pos (by omega)]; simp
          rw [ha, Option.bind_some]
          generalize attrsS t.fNodes 100 (i : Int) = all at *
          simp only [Bool.or_false, cond_false]
          cases decide (((rd t.fNodes (i : Int)).fAttrs.length : Int) > 4) with
          | true => rfl
          | false =>
            cases h8 : decide ((all.length : Int) > 8) with
            | true => rfl
            | false =>
              simp at h8
              rw [cond_false, cond_false, gd (inR_of (by omega)), show ((all.length : Int) - ((rd t.fNodes (i : Int)).fAttrs.length : Int)) = ((all.length - (rd t.fNodes (i : Int)).fAttrs.length : Nat) : Int) by omega]
              refine loop1_eq (fun j => scan (attrErr all) j all.length) all.length (fun rec => ?_) (fun j hj rec ih => ?_) (by omega) (by omega)
              · simp [types_node.b0, scan_end]
              · rw [scan_step hj]
                have g2 : (0 : Int) ≤ (j : Int) ∧ (j : Int) < (all.length : Int) := by omega
                have h7 := types_attribute_eq (k := k) hk all j hj (by omega) (hall _ (rd_mem g2.1 g2.2))
                simp only [types_node.b0, show decide ((j : Int) < (all.length : Int)) = true by simp [hj], cond_true, gd g2, gd (show (0 : Int) ≤ (j : Int) ∧ (j : Int) ≤ (all.length : Int) by omega), h7, Option.bind_some, gd (inR_nat (n := j) (by omega)), ih]
                cases (attrErr all j != 0) <;> rfl
theorem ref04_node_eq {k : Nat} (hk : 200 ≤ k) {t : Types} (ht : FewT t) {i : Nat} (hi : i < t.fNodes.length) (w : WfP t.fNodes i) : ref04_node k t (i : Int) = some (nodeErr t i) := by
  have h20 := ht.nodes
  have h1 : (0 : Int) ≤ (i : Int) ∧ (i : Int) < (t.fNodes.length : Int) := by omega
  have hm := rd_mem h1.1 h1.2
  have h4 := ref01_IsName_eq (k := k) hk (rd t.fNodes (i : Int)).fName (by have := ht.nname _ hm; omega)
  unfold ref04_node nodeErr
  rw [gd h1, h4, Option.bind_some]
  cases isNameB (rd t.fNodes (i : Int)).fName with
  | false => rfl
  | true =>
    rw [Bool.not_true, cond_false, cond_false, show (0 : Int) = ((0 : Nat) : Int) from rfl]
    generalize hE : (bif decide ((rd t.fNodes (i : Int)).fParent < -1) || decide ((rd t.fNodes (i : Int)).fParent ≥ (i : Int)) then (6 : Int)
      else bif decide (((rd t.fNodes (i : Int)).fAttrs.length : Int) > 4) then 3
      else bif decide (((attrsS t.fNodes 100 (i : Int)).length : Int) > 8) then 3
      else scan (attrErr (attrsS t.fNodes 100 (i : Int))) ((attrsS t.fNodes 100 (i : Int)).length - (rd t.fNodes (i : Int)).fAttrs.length) (attrsS t.fNodes 100 (i : Int)).length) = E
    refine loop1_eq (fun j => bif anyN (fun j => (rd t.fNodes (j : Int)).fName == (rd t.fNodes (i : Int)).fName) j i then 5 else E) i (fun rec => ?_) (fun j hj rec ih => ?_) (Nat.zero_le _) (by omega)
    · rw [anyN_end, cond_false]
      simp only [ref04_node.b0, show decide ((i : Int) < (i : Int)) = false by simp, cond_false, gd (inR_of (x := (i : Int) - 1) (by omega)), ref04_in_eq, Option.bind_some, jn]
      subst hE
      by_cases hp1 : (rd t.fNodes (i : Int)).fParent < -1
      · rw [decide_eq_true hp1, decide_eq_false (show ¬ (rd t.fNodes (i : Int)).fParent ≥ -1 by omega)]; rfl
      by_cases hp2 : (rd t.fNodes (i : Int)).fParent ≥ (i : Int)
      · rw [decide_eq_true hp2, decide_eq_false hp1, decide_eq_false (show ¬ (rd t.fNodes (i : Int)).fParent ≤ (i : Int) - 1 by omega), Bool.and_false]; rfl
      have w' := wf_succ w hi (by omega)
      have ha := ref04_attrs_eq w' ht.nattr 100 k (i : Int) (by omega) (by omega) (by omega) (by omega)
      have hall := attrsS_all w' ht.attr 100 (i : Int) (by omega)
      have hlen : (rd t.fNodes (i : Int)).fAttrs.length ≤ (attrsS t.fNodes 100 (i : Int)).length := by rw [attrsS_pos (by omega)]; simp
      rw [ha, Option.bind_some, decide_eq_false hp1, decide_eq_false hp2, decide_eq_true (show (rd t.fNodes (i : Int)).fParent ≥ -1 by omega), decide_eq_true (show (rd t.fNodes (i : Int)).fParent ≤ (i : Int) - 1 by omega)]
      generalize attrsS t.fNodes 100 (i : Int) = all at *
      simp only [Bool.or_false, Bool.and_true, Bool.not_true, cond_false]
      cases decide (((rd t.fNodes (i : Int)).fAttrs.length : Int) > 4) with
      | true => rfl
      | false =>
        cases h8 : decide ((all.length : Int) > 8) with
        | true => rfl
        | false =>
          simp at h8
          rw [cond_false, cond_false, cond_false, cond_false, gd (inR_of (by omega)), show ((all.length : Int) - ((rd t.fNodes (i : Int)).fAttrs.length : Int)) = ((all.length - (rd t.fNodes (i : Int)).fAttrs.length : Nat) : Int) by omega]
          refine loop1_eq (fun j => scan (attrErr all) j all.length) all.length (fun rec => ?_) (fun j hj rec ih => ?_) (by omega) (by omega)
          · simp [ref04_node.b1, scan_end]
          · rw [scan_step hj]
            have g2 : (0 : Int) ≤ (j : Int) ∧ (j : Int) < (all.length : Int) := by omega
            have hfa := hall _ (rd_mem g2.1 g2.2)
            have h7 := ref04_attribute_eq (k := k) hk _ hfa
            have h8 := ref01_IsName_eq (k := k) hk (rd all (j : Int)).fName (by have := hfa.name; omega)
            have h9 : loop1 k (ref04_node.b2 k all (j : Int) rec) ((0 : Nat) : Int) = some (bif anyN (fun m => (rd all (m : Int)).fName == (rd all (j : Int)).fName) 0 j then 5 else bif attrOwn (rd all (j : Int)) != 0 then attrOwn (rd all (j : Int)) else scan (attrErr all) (j + 1) all.length) := by
              refine loop1_eq (fun m => bif anyN (fun m => (rd all (m : Int)).fName == (rd all (j : Int)).fName) m j then 5 else bif attrOwn (rd all (j : Int)) != 0 then attrOwn (rd all (j : Int)) else scan (attrErr all) (j + 1) all.length) j (fun rec1 => ?_) (fun m hm rec1 ih1 => ?_) (Nat.zero_le _) (by omega)
              · simp only [ref04_node.b2, anyN_end, cond_false, gd g2, h7, Option.bind_some, gd (inR_nat (n := j) (by omega)), ih, show decide ((j : Int) < (j : Int)) = false by simp]
                cases (attrOwn (rd all (j : Int)) != 0) <;> rfl
              · rw [anyN_step hm]
                simp only [ref04_node.b2, show decide ((m : Int) < (j : Int)) = true by simp [hm], cond_true, gd g2, gd (show (0 : Int) ≤ (m : Int) ∧ (m : Int) < (all.length : Int) by omega), gd (inR_nat (n := m) (by omega)), ih1]
                cases ((rd all (m : Int)).fName == (rd all (j : Int)).fName) <;> rfl
            have h10 : loop1 k (ref04_node.b2 k all (j : Int) rec) 0 = _ := h9
            simp only [ref04_node.b1, show decide ((j : Int) < (all.length : Int)) = true by simp [hj], cond_true, gd g2, h8, Option.bind_some, h10, attrErr]
            cases isNameB (rd all (j : Int)).fName <;> cases anyN (fun m => (rd all (m : Int)).fName == (rd all (j : Int)).fName) 0 j <;> rfl
    · rw [anyN_step hj]
      simp only [ref04_node.b0, show decide ((j : Int) < (i : Int)) = true by simp [hj], cond_true, gd (show (0 : Int) ≤ (j : Int) ∧ (j : Int) < (t.fNodes.length : Int) by omega), gd (inR_nat (n := j) (by omega)), ih]
      cases ((rd t.fNodes (j : Int)).fName == (rd t.fNodes (i : Int)).fName) <;> rfl

def boundB (a b : Int) : Bool := decide (a ≥ 0) && (decide (a ≤ 40) && (b == -1 || (decide (b ≥ a) && decide (b ≤ 40))))
theorem types_bounded_eq {k : Nat} (a b : Int) : types_bounded k a b = some (boundB a b) := by
  simp only [types_bounded, jn, boundB]
  cases decide (a ≥ 0) <;> cases decide (a ≤ 40) <;> cases (b == -1) <;> cases decide (b ≥ a) <;> rfl
theorem ref04_bound_eq {k : Nat} (a b : Int) : ref04_bound k a b = some (boundB a b) := by
  simp only [ref04_bound, jn, boundB, ref04_in_eq, Option.bind_some]
  cases decide (a ≥ 0) <;> cases decide (a ≤ 40) <;> cases (b == -1) <;> cases decide (b ≥ a) <;> rfl
def insB (a : Int) (t : Types) : Bool := decide (a ≥ 0) && decide (a < (t.fNodes.length : Int))
theorem types_edge_1_eq {k : Nat} (a : Int) (t : Types) : types_edge_1 k a t = some (insB a t) := by
  simp only [types_edge_1, jn, insB]
  cases decide (a ≥ 0) <;> rfl
theorem ins_eq (a : Int) (t : Types) : (decide (a ≥ 0) && decide (a ≤ (t.fNodes.length : Int) - 1)) = insB a t := by
  unfold insB; rw [Bool.eq_iff_iff]; simp; omega
def edgeErr (t : Types) (i : Nat) : Int :=
  bif !isNameB (rd t.fEdges (i : Int)).fName then 2
  else bif anyN (fun j => (rd t.fEdges (j : Int)).fName == (rd t.fEdges (i : Int)).fName) 0 i then 5
  else bif insB (rd t.fEdges (i : Int)).fFrom t && (insB (rd t.fEdges (i : Int)).fTo t && (boundB (rd t.fEdges (i : Int)).fOutLow (rd t.fEdges (i : Int)).fOutHigh && boundB (rd t.fEdges (i : Int)).fInLow (rd t.fEdges (i : Int)).fInHigh)) then 0 else 6
theorem types_edge_eq {k : Nat} (hk : 200 ≤ k) {t : Types} (ht : FewT t) {i : Nat} (hi : i < t.fEdges.length) : types_edge k t (i : Int) = some (edgeErr t i) := by
  have h20 := ht.edges
  have h1 : (0 : Int) ≤ (i : Int) ∧ (i : Int) < (t.fEdges.length : Int) := by omega
  have hm := rd_mem h1.1 h1.2
  have h3 : (t.fEdges.take (i : Int).toNat).length = i := by simp; omega
  have h4 := token_IsName_eq (k := k) hk (rd t.fEdges (i : Int)).fName (by have := ht.ename _ hm; omega)
  have h5 := ContainsFunc_EdgeType (k := k) (t.fEdges.take (i : Int).toNat) (fun x => types_edge_2 k x (rd t.fEdges (i : Int))) _ (by omega) (by omega) (fun j _ => rfl)
  rw [h3, anyN_congr (q := fun j => (rd t.fEdges (j : Int)).fName == (rd t.fEdges (i : Int)).fName) (fun j _ hj => by rw [show (i : Int).toNat = i from rfl, rd_take hj])] at h5
  unfold types_edge edgeErr
  simp only [gd h1, h4, Option.bind_some, gd (show (0 : Int) ≤ (i : Int) ∧ (i : Int) ≤ (t.fEdges.length : Int) by omega), h5, jn, types_edge_1_eq, types_bounded_eq]
  cases isNameB (rd t.fEdges (i : Int)).fName <;> cases anyN (fun j => (rd t.fEdges (j : Int)).fName == (rd t.fEdges (i : Int)).fName) 0 i <;> cases insB (rd t.fEdges (i : Int)).fFrom t <;> cases insB (rd t.fEdges (i : Int)).fTo t <;>
    cases boundB (rd t.fEdges (i : Int)).fOutLow (rd t.fEdges (i : Int)).fOutHigh <;> cases boundB (rd t.fEdges (i : Int)).fInLow (rd t.fEdges (i : Int)).fInHigh <;> rfl
theorem ref04_edge_eq {k : Nat} (hk : 200 ≤ k) {t : Types} (ht : FewT t) {i : Nat} (hi : i < t.fEdges.length) : ref04_edge k t (i : Int) = some (edgeErr t i) := by
  have h20 := ht.edges
  have h21 := ht.nodes
  have h1 : (0 : Int) ≤ (i : Int) ∧ (i : Int) < (t.fEdges.length : Int) := by omega
  have hm := rd_mem h1.1 h1.2
  have h4 := ref01_IsName_eq (k := k) hk (rd t.fEdges (i : Int)).fName (by have := ht.ename _ hm; omega)
  unfold ref04_edge edgeErr
  rw [gd h1, h4, Option.bind_some]
  cases isNameB (rd t.fEdges (i : Int)).fName with
  | false => rfl
  | true =>
    rw [Bool.not_true, cond_false, cond_false, show (0 : Int) = ((0 : Nat) : Int) from rfl]
    refine loop1_eq (fun j => bif anyN (fun j => (rd t.fEdges (j : Int)).fName == (rd t.fEdges (i : Int)).fName) j i then (5 : Int) else _) i (fun rec => ?_) (fun j hj rec ih => ?_) (Nat.zero_le _) (by omega)
    · rw [anyN_end, cond_false]
      simp only [ref04_edge.b0, show decide ((i : Int) < (i : Int)) = false by simp, cond_false, gd (inR_of (x := (t.fNodes.length : Int) - 1) (by omega)), ref04_in_eq, ins_eq, ref04_bound_eq, Option.bind_some, jn]
      cases insB (rd t.fEdges (i : Int)).fFrom t <;> cases insB (rd t.fEdges (i : Int)).fTo t <;>
        cases boundB (rd t.fEdges (i : Int)).fOutLow (rd t.fEdges (i : Int)).fOutHigh <;> cases boundB (rd t.fEdges (i : Int)).fInLow (rd t.fEdges (i : Int)).fInHigh <;> rfl
    · rw [anyN_step hj]
      simp only [ref04_edge.b0, show decide ((j : Int) < (i : Int)) = true by simp [hj], cond_true, gd (show (0 : Int) ≤ (j : Int) ∧ (j : Int) < (t.fEdges.length : Int) by omega), gd (inR_nat (n := j) (by omega)), ih]
      cases ((rd t.fEdges (j : Int)).fName == (rd t.fEdges (i : Int)).fName) <;> rfl

def valid2S (t : Types) (i : Nat) : Int := bif scan (nodeErr t) i t.fNodes.length != 0 then scan (nodeErr t) i t.fNodes.length else scan (edgeErr t) 0 t.fEdges.length
def validS (t : Types) : Int :=
  bif ((t.fNodes.length : Int) == 0) then 7 else bif decide ((t.fNodes.length : Int) > 12) || decide ((t.fEdges.length : Int) > 20) then 3 else valid2S t 0
theorem types_Valid_out {k : Nat} (hk : 200 ≤ k) {t : Types} (ht : FewT t) : Out (types_Valid k t) (fun r => r.2 = validS t) := by
  have h20 := ht.nodes
  have h30 := ht.edges
  unfold types_Valid validS; simp only [jn]
  cases ((t.fNodes.length : Int) == 0) with
  | true => exact ⟨_, rfl, rfl⟩
  | false =>
    cases decide ((t.fNodes.length : Int) > 12) with
    | true => exact ⟨_, rfl, rfl⟩
    | false =>
      cases decide ((t.fEdges.length : Int) > 20) with
      | true => exact ⟨_, rfl, rfl⟩
      | false =>
        refine loop1_out (I := fun i => WfP t.fNodes i) (P := fun i (r : Str × Int) => r.2 = valid2S t i) t.fNodes.length (fun w rec => ?_) (fun i hi w rec ih => ?_) k 0 (Nat.zero_le _) (by omega) ⟨Nat.zero_le _, fun j hj => by omega⟩
        · simp only [types_Valid.b0, show decide ((t.fNodes.length : Int) < (t.fNodes.length : Int)) = false by simp, cond_false, valid2S, scan_end, bne_self_eq_false]
          refine loop1_out (I := fun _ => True) (P := fun i (r : Str × Int) => r.2 = scan (edgeErr t) i t.fEdges.length) t.fEdges.length (fun _ rec => ?_) (fun i hi _ rec ih => ?_) k 0 (Nat.zero_le _) (by omega) trivial
          · simp only [types_Valid.b1, show decide ((t.fEdges.length : Int) < (t.fEdges.length : Int)) = false by simp, cond_false, scan_end]
            exact ⟨_, rfl, rfl⟩
          · rw [scan_step hi]
            simp only [types_Valid.b1, show decide ((i : Int) < (t.fEdges.length : Int)) = true by simp [hi], cond_true, gd (show (0 : Int) ≤ (i : Int) ∧ (i : Int) < (t.fEdges.length : Int) by omega), types_edge_eq hk ht hi, Option.bind_some, gd (inR_nat (n := i) (by omega))]
            cases (edgeErr t i != 0) with
            | true => exact ⟨_, rfl, rfl⟩
            | false => exact ih trivial
        · unfold valid2S
          rw [scan_step hi]
          simp only [types_Valid.b0, show decide ((i : Int) < (t.fNodes.length : Int)) = true by simp [hi], cond_true, gd (show (0 : Int) ≤ (i : Int) ∧ (i : Int) < (t.fNodes.length : Int) by omega), types_node_eq hk ht hi w, Option.bind_some, gd (inR_nat (n := i) (by omega))]
          cases hz : (nodeErr t i != 0) with
          | true => exact ⟨_, rfl, by rw [cond_true, hz]; rfl⟩
          | false => exact ih (nodeErr_wf w hi (by simpa using hz))
theorem ref04_Valid_out {k : Nat} (hk : 200 ≤ k) {t : Types} (ht : FewT t) : Out (ref04_Valid k t) (fun r => r.2 = validS t) := by
  have h20 := ht.nodes
  have h30 := ht.edges
  unfold ref04_Valid validS; simp only [jn]
  cases ((t.fNodes.length : Int) == 0) with
  | true => exact ⟨_, rfl, rfl⟩
  | false =>
    cases decide ((t.fNodes.length : Int) > 12) with
    | true => exact ⟨_, rfl, rfl⟩
    | false =>
      cases decide ((t.fEdges.length : Int) > 20) with
      | true => exact ⟨_, rfl, rfl⟩
      | false =>
        refine loop1_out (I := fun i => WfP t.fNodes i) (P := fun i (r : Str × Int) => r.2 = valid2S t i) t.fNodes.length (fun w rec => ?_) (fun i hi w rec ih => ?_) k 0 (Nat.zero_le _) (by omega) ⟨Nat.zero_le _, fun j hj => by omega⟩
        · simp only [ref04_Valid.b0, show decide ((t.fNodes.length : Int) < (t.fNodes.length : Int)) = false by simp, cond_false, valid2S, scan_end, bne_self_eq_false]
          refine loop1_out (I := fun _ => True) (P := fun i (r : Str × Int) => r.2 = scan (edgeErr t) i t.fEdges.length) t.fEdges.length (fun _ rec => ?_) (fun i hi _ rec ih => ?_) k 0 (Nat.zero_le _) (by omega) trivial
          · simp only [ref04_Valid.b1, show decide ((t.fEdges.length : Int) < (t.fEdges.length : Int)) = false by simp, cond_false, scan_end]
            exact ⟨_, rfl, rfl⟩
          · rw [scan_step hi]
            simp only [ref04_Valid.b1, show decide ((i : Int) < (t.fEdges.length : Int)) = true by simp [hi], cond_true, gd (show (0 : Int) ≤ (i : Int) ∧ (i : Int) < (t.fEdges.length : Int) by omega), ref04_edge_eq hk ht hi, Option.bind_some, gd (inR_nat (n := i) (by omega))]
            cases (edgeErr t i != 0) with
            | true => exact ⟨_, rfl, rfl⟩
            | false => exact ih trivial
        · unfold valid2S
          rw [scan_step hi]
          simp only [ref04_Valid.b0, show decide ((i : Int) < (t.fNodes.length : Int)) = true by simp [hi], cond_true, gd (show (0 : Int) ≤ (i : Int) ∧ (i : Int) < (t.fNodes.length : Int) by omega), ref04_node_eq hk ht hi w, Option.bind_some, gd (inR_nat (n := i) (by omega))]
          cases hz : (nodeErr t i != 0) with
          | true => exact ⟨_, rfl, by rw [cond_true, hz]; rfl⟩
          | false => exact ih (nodeErr_wf w hi (by simpa using hz))
/-- What a type graph without error has. -/
theorem valid_wf {t : Types} (h : validS t = 0) : WfP t.fNodes t.fNodes.length ∧ t.fNodes.length ≤ 12 ∧ t.fEdges.length ≤ 20 := by
  unfold validS at h
  cases h0 : ((t.fNodes.length : Int) == 0) with
  | true => rw [h0] at h; simp at h
  | false =>
    cases h1 : decide ((t.fNodes.length : Int) > 12) || decide ((t.fEdges.length : Int) > 20) with
    | true => rw [h0, h1] at h; simp at h
    | false =>
      simp only [Bool.or_eq_false_iff, decide_eq_false_iff_not] at h1
      rw [h0] at h
      have h1' : (decide ((t.fNodes.length : Int) > 12) || decide ((t.fEdges.length : Int) > 20)) = false := by simp; omega
      rw [h1'] at h
      simp only [cond_false, valid2S] at h
      have hz : scan (nodeErr t) 0 t.fNodes.length = 0 := by
        cases hb : (scan (nodeErr t) 0 t.fNodes.length != 0) with
        | true => rw [hb] at h; exact h
        | false => simpa using hb
      refine ⟨?_, by omega, by omega⟩
      have : ∀ i, i ≤ t.fNodes.length → WfP t.fNodes i := by
        intro i
        induction i with
        | zero => intro _; exact ⟨Nat.zero_le _, fun j hj => by omega⟩
        | succ i ih => intro hi; exact nodeErr_wf (ih (by omega)) (by omega) (scan_zero hz i (Nat.zero_le _) (by omega))
      exact this _ (Nat.le_refl _)
end Go.Proofs.YthmdmchmmgmblaaGreat

namespace Go.Proofs.YthmdmchmmgmblaaGreat
open Go Go.Abs

def kindB (x : Int) : Bool := decide (x ≥ 0) && decide (x ≤ 99)
def ltB (x n : Int) : Bool := decide (x ≥ 0) && decide (x < n)
def rightB (e : Edge) (n : Int) : Bool := kindB e.fType && (ltB e.fFrom n && ltB e.fTo n)
theorem graph_within_eq {k : Nat} (a b : Int) : graph_within k a b = some (decide (a ≥ 0) && decide (a ≤ b)) := by
  simp only [graph_within, jn]; cases decide (a ≥ 0) <;> rfl
theorem graph_fits_eq {k : Nat} (e : Edge) {n : Int} (hn : inR (n - 1)) : graph_fits k e n = some (rightB e n) := by
  simp only [graph_fits, jn, graph_within_eq, Option.bind_some, gd hn, rightB, kindB, ltB]
  have h1 : decide (e.fFrom ≤ n - 1) = decide (e.fFrom < n) := by rw [Bool.eq_iff_iff]; simp; omega
  have h2 : decide (e.fTo ≤ n - 1) = decide (e.fTo < n) := by rw [Bool.eq_iff_iff]; simp; omega
  rw [h1, h2]
  cases (decide (e.fType ≥ 0) && decide (e.fType ≤ 99)) <;> cases (decide (e.fFrom ≥ 0) && decide (e.fFrom < n)) <;> rfl
theorem ref05_kind_eq {k : Nat} (a : Int) : ref05_kind k a = some (kindB a) := by
  simp only [ref05_kind, jn, kindB]; cases decide (a ≥ 0) <;> rfl
theorem ref05_right_eq {k : Nat} (e : Edge) (n : Int) : ref05_right k e n = some (rightB e n) := by
  simp only [ref05_right, jn, ref05_kind_eq, Option.bind_some, rightB, ltB]
  cases kindB e.fType <;> cases decide (e.fFrom ≥ 0) <;> cases decide (e.fFrom < n) <;> cases decide (e.fTo ≥ 0) <;> rfl

structure FewG (g : Graph) : Prop where
  nodes : g.fNodes.length ≤ 45
  edges : g.fEdges.length ≤ 90

def edges6 (g : Graph) (i : Nat) : Int := bif anyN (fun j => !rightB (rd g.fEdges (j : Int)) (g.fNodes.length : Int)) i g.fEdges.length then 6 else 0
def nodes6 (g : Graph) (i : Nat) : Int := bif anyN (fun j => !kindB (rd g.fNodes (j : Int))) i g.fNodes.length then 6 else edges6 g 0
def graphErr (g : Graph) : Int := bif decide ((g.fNodes.length : Int) > 40) || decide ((g.fEdges.length : Int) > 80) then 3 else nodes6 g 0
theorem graph_Valid_eq {k : Nat} (hk : 200 ≤ k) {g : Graph} (hg : FewG g) : graph_Valid k g = some (graphErr g) := by
  have h1 := hg.nodes; have h2 := hg.edges
  have h3 := ContainsFunc_int (k := k) g.fNodes (fun x => graph_Valid_1 k x) (fun j => !kindB (rd g.fNodes (j : Int))) (by omega) (by omega) (fun j _ => by simp only [graph_Valid_1, graph_within_eq, Option.bind_some, kindB])
  have h4 := ContainsFunc_Edge (k := k) g.fEdges (fun x => graph_Valid_2 k x g) (fun j => !rightB (rd g.fEdges (j : Int)) (g.fNodes.length : Int)) (by omega) (by omega)
    (fun j _ => by simp only [graph_Valid_2, graph_fits_eq _ (inR_of (x := (g.fNodes.length : Int) - 1) (by omega)), Option.bind_some])
  simp only [graph_Valid, jn, h3, h4, Option.bind_some, graphErr, nodes6, edges6]
  cases decide ((g.fNodes.length : Int) > 40) <;> cases decide ((g.fEdges.length : Int) > 80) <;> cases anyN (fun j => !kindB (rd g.fNodes (j : Int))) 0 g.fNodes.length <;> cases anyN (fun j => !rightB (rd g.fEdges (j : Int)) (g.fNodes.length : Int)) 0 g.fEdges.length <;> rfl
theorem ref05_Valid_eq {k : Nat} (hk : 200 ≤ k) {g : Graph} (hg : FewG g) : ref05_Valid k g = some (graphErr g) := by
  have h1 := hg.nodes; have h2 := hg.edges
  have h3 : loop1 k (ref05_Valid.b0 k g) ((0 : Nat) : Int) = some (nodes6 g 0) := by
    refine loop1_eq (fun i => nodes6 g i) g.fNodes.length (fun rec => ?_) (fun i hi rec ih => ?_) (Nat.zero_le _) (by omega)
    · simp only [ref05_Valid.b0, show decide ((g.fNodes.length : Int) < (g.fNodes.length : Int)) = false by simp, cond_false, nodes6, anyN_end]
      have h4 : loop1 k (ref05_Valid.b1 k g) ((0 : Nat) : Int) = some (edges6 g 0) := by
        refine loop1_eq (fun i => edges6 g i) g.fEdges.length (fun rec => ?_) (fun i hi rec ih => ?_) (Nat.zero_le _) (by omega)
        · simp only [ref05_Valid.b1, show decide ((g.fEdges.length : Int) < (g.fEdges.length : Int)) = false by simp, cond_false, edges6, anyN_end]
        · simp only [edges6] at ih
          simp only [edges6, anyN_step hi, ref05_Valid.b1, show decide ((i : Int) < (g.fEdges.length : Int)) = true by simp [hi], cond_true, gd (show (0 : Int) ≤ (i : Int) ∧ (i : Int) < (g.fEdges.length : Int) by omega), ref05_right_eq, Option.bind_some, gd (inR_nat (n := i) (by omega)), ih]
          cases rightB (rd g.fEdges (i : Int)) (g.fNodes.length : Int) with
          | true => simp only [Bool.not_true, cond_false, Bool.false_or]
          | false => simp only [Bool.not_false, cond_true, Bool.true_or]
      exact h4
    · simp only [nodes6] at ih
      simp only [nodes6, anyN_step hi, ref05_Valid.b0, show decide ((i : Int) < (g.fNodes.length : Int)) = true by simp [hi], cond_true, gd (show (0 : Int) ≤ (i : Int) ∧ (i : Int) < (g.fNodes.length : Int) by omega), ref05_kind_eq, Option.bind_some, gd (inR_nat (n := i) (by omega)), ih]
      cases kindB (rd g.fNodes (i : Int)) with
      | true => simp only [Bool.not_true, cond_false, Bool.false_or]
      | false => simp only [Bool.not_false, cond_true, Bool.true_or]
  have h4 : loop1 k (ref05_Valid.b0 k g) 0 = some (nodes6 g 0) := h3
  simp only [ref05_Valid, jn, h4, graphErr]
  cases decide ((g.fNodes.length : Int) > 40) <;> cases decide ((g.fEdges.length : Int) > 80) <;> rfl

structure GoodG (g : Graph) : Prop where
  nodes : g.fNodes.length ≤ 40
  edges : g.fEdges.length ≤ 80
  kind : ∀ j : Nat, j < g.fNodes.length → 0 ≤ rd g.fNodes (j : Int) ∧ rd g.fNodes (j : Int) ≤ 99
  right : ∀ j : Nat, j < g.fEdges.length → 0 ≤ (rd g.fEdges (j : Int)).fType ∧ (0 ≤ (rd g.fEdges (j : Int)).fFrom ∧ (rd g.fEdges (j : Int)).fFrom < (g.fNodes.length : Int)) ∧ (0 ≤ (rd g.fEdges (j : Int)).fTo ∧ (rd g.fEdges (j : Int)).fTo < (g.fNodes.length : Int))
theorem anyN_false {p : Nat → Bool} {i n : Nat} (h : anyN p i n = false) : ∀ j, i ≤ j → j < n → p j = false := fun j h1 h2 => by
  cases hp : p j with
  | false => rfl
  | true => rw [anyN_iff.2 ⟨j, h1, h2, hp⟩] at h; cases h
theorem anyN_none {p : Nat → Bool} {i n : Nat} (h : ∀ j, i ≤ j → j < n → p j = false) : anyN p i n = false := by
  cases hp : anyN p i n with
  | false => rfl
  | true => obtain ⟨j, h1, h2, h3⟩ := anyN_iff.1 hp; rw [h j h1 h2] at h3; cases h3
theorem graphErr_good {g : Graph} (h : graphErr g = 0) : GoodG g := by
  unfold graphErr nodes6 edges6 at h
  cases h0 : decide ((g.fNodes.length : Int) > 40) || decide ((g.fEdges.length : Int) > 80) with
  | true => rw [h0] at h; simp at h
  | false =>
    rw [h0] at h
    cases h1 : anyN (fun j => !kindB (rd g.fNodes (j : Int))) 0 g.fNodes.length with
    | true => rw [h1] at h; simp at h
    | false =>
      rw [h1] at h
      cases h2 : anyN (fun j => !rightB (rd g.fEdges (j : Int)) (g.fNodes.length : Int)) 0 g.fEdges.length with
      | true => rw [h2] at h; simp at h
      | false =>
        simp only [Bool.or_eq_false_iff, decide_eq_false_iff_not] at h0
        refine ⟨by omega, by omega, fun j hj => ?_, fun j hj => ?_⟩
        · have := anyN_false h1 j (Nat.zero_le _) hj
          simp only [kindB, Bool.not_eq_false', Bool.and_eq_true, decide_eq_true_eq] at this
          omega
        · have := anyN_false h2 j (Nat.zero_le _) hj
          simp only [rightB, kindB, ltB, Bool.not_eq_false', Bool.and_eq_true, decide_eq_true_eq] at this
          omega
theorem good_graphErr {g : Graph} (h : GoodG g) (ht : ∀ j : Nat, j < g.fEdges.length → (rd g.fEdges (j : Int)).fType ≤ 99) : graphErr g = 0 := by
  have a := h.nodes; have b := h.edges
  unfold graphErr nodes6 edges6
  have h0 : (decide ((g.fNodes.length : Int) > 40) || decide ((g.fEdges.length : Int) > 80)) = false := by simp; omega
  rw [h0, cond_false, anyN_none, cond_false, anyN_none, cond_false]
  · intro j _ hj
    have := h.right j hj; have := ht j hj
    simp [rightB, kindB, ltB]; omega
  · intro j _ hj
    have := h.kind j hj
    simp [kindB]; omega

def typedB (t : Types) (g : Graph) : Bool := !anyN (fun j => decide (rd g.fNodes (j : Int) ≥ (t.fNodes.length : Int))) 0 g.fNodes.length && !anyN (fun j => decide ((rd g.fEdges (j : Int)).fType ≥ (t.fEdges.length : Int))) 0 g.fEdges.length
def givenS (t : Types) (p g : Graph) : Int :=
  bif validS t != 0 then validS t else bif graphErr p != 0 then graphErr p else bif graphErr g != 0 then graphErr g else bif typedB t p && typedB t g then 0 else 13
structure Small (t : Types) (p g : Graph) : Prop where
  t : FewT t
  p : FewG p
  g : FewG g
structure Fine (t : Types) (p g : Graph) : Prop where
  ok : validS t = 0
  gp : GoodG p
  gg : GoodG g
  tp : typedB t p = true
  tg : typedB t g = true
/-! ### What is small -/
theorem rd_cover {α : Type} [Inhabited α] {l : List α} {P : α → Prop} (h : ∀ j : Nat, j < l.length → P (rd l (j : Int))) : ∀ x ∈ l, P x := by
  intro x hx
  obtain ⟨i, hi, rfl⟩ := List.mem_iff_getElem.1 hx
  have := h i hi
  simpa [rd, List.getD, List.getElem?_eq_getElem hi] using this
structure FewN (n : NodeType) : Prop where
  name : n.fName.length ≤ 40
  attrs : n.fAttrs.length ≤ 30
  attr : ∀ j : Nat, j < n.fAttrs.length → FewA (rd n.fAttrs (j : Int))
theorem ref04_Few_out {k : Nat} (hk : 200 ≤ k) {t : Types} (hA : ∀ n ∈ t.fNodes, n.fAttrs.length ≤ 140737488351232) : Out (ref04_Few k t) (fun b => b = true → FewT t) := by
  unfold ref04_Few; simp only [jn]
  cases h0 : decide ((t.fNodes.length : Int) > 20) with
  | true => exact ⟨false, rfl, fun h => by cases h⟩
  | false =>
    cases h1 : decide ((t.fEdges.length : Int) > 30) with
    | true => exact ⟨false, rfl, fun h => by cases h⟩
    | false =>
      simp at h0 h1
      rw [cond_false, cond_false]
      refine (loop2_out (S := Int) (P := fun _ i b => b = true → (∀ j : Nat, i ≤ j → j < t.fNodes.length → FewN (rd t.fNodes (j : Int))) ∧ (∀ j : Nat, j < t.fEdges.length → (rd t.fEdges (j : Int)).fName.length ≤ 40))
        (I := fun s _ => 0 ≤ s ∧ s ≤ 30) t.fNodes.length (fun s hs rec => ?_) (fun s i hi hs rec ih => ?_) k 0 0 (Nat.zero_le _) (by omega) (by omega)).mono fun b hb e => ?_
      · simp only [ref04_Few.b0, show decide ((t.fNodes.length : Int) < (t.fNodes.length : Int)) = false by simp, cond_false]
        refine (loop1_out (I := fun _ => True) (P := fun i b => b = true → ∀ j : Nat, i ≤ j → j < t.fEdges.length → (rd t.fEdges (j : Int)).fName.length ≤ 40) t.fEdges.length (fun _ rec => ?_) (fun i hi _ rec ih => ?_) k 0 (Nat.zero_le _) (by omega) trivial).mono fun b hb e => ?_
        · simp only [ref04_Few.b3, show decide ((t.fEdges.length : Int) < (t.fEdges.length : Int)) = false by simp, cond_false]
          exact ⟨_, rfl, fun _ j h1 h2 => by omega⟩
        · rw [ref04_Few.b3, show decide ((i : Int) < (t.fEdges.length : Int)) = true by simp [hi], cond_true, gd (show (0 : Int) ≤ (i : Int) ∧ (i : Int) < (t.fEdges.length : Int) by omega), gd (inR_nat (n := i) (by omega))]
          cases hc : decide (((rd t.fEdges (i : Int)).fName.length : Int) > 40) with
          | true => exact ⟨false, rfl, fun h => by cases h⟩
          | false =>
            simp at hc
            refine (ih trivial).mono fun b hb e j h1 h2 => ?_
            rcases Nat.eq_or_lt_of_le h1 with rfl | h3
            · omega
            · exact hb e j h3 h2
        · exact ⟨fun j h1 h2 => by omega, fun j hj => hb e j (Nat.zero_le _) hj⟩
      · have hal := hA _ (rd_mem (l := t.fNodes) (x := (i : Int)) (by omega) (by omega))
        have g1 : (0 : Int) ≤ (i : Int) ∧ (i : Int) < (t.fNodes.length : Int) := by omega
        simp only [ref04_Few.b0, jn]
        rw [show decide ((i : Int) < (t.fNodes.length : Int)) = true by simp [hi], cond_true, gd g1, gd g1, gd (inR_of (x := s + ((rd t.fNodes (i : Int)).fAttrs.length : Int)) (by omega))]
        cases hc : decide (s + ((rd t.fNodes (i : Int)).fAttrs.length : Int) > 30) with
        | true => exact ⟨false, rfl, fun h => by cases h⟩
        | false =>
          cases hd : decide (((rd t.fNodes (i : Int)).fName.length : Int) > 40) with
          | true => exact ⟨false, rfl, fun h => by cases h⟩
          | false =>
            simp at hc hd
            rw [cond_false, cond_false]
            refine (loop1_out (I := fun _ => True) (P := fun a b => b = true → (∀ j : Nat, a ≤ j → j < (rd t.fNodes (i : Int)).fAttrs.length → FewA (rd (rd t.fNodes (i : Int)).fAttrs (j : Int))) ∧ (∀ j : Nat, i + 1 ≤ j → j < t.fNodes.length → FewN (rd t.fNodes (j : Int))) ∧ (∀ j : Nat, j < t.fEdges.length → (rd t.fEdges (j : Int)).fName.length ≤ 40))
              (rd t.fNodes (i : Int)).fAttrs.length (fun _ rec1 => ?_) (fun a ha _ rec1 ih1 => ?_) k 0 (Nat.zero_le _) (by omega) trivial).mono fun b hb e => ?_
            · simp only [ref04_Few.b1, gd g1, show decide ((((rd t.fNodes (i : Int)).fAttrs.length : Nat) : Int) < ((rd t.fNodes (i : Int)).fAttrs.length : Int)) = false by simp, cond_false, gd (inR_nat (n := i) (by omega))]
              exact (ih _ (by omega)).mono fun b hb e => ⟨fun j h1 h2 => by omega, hb e⟩
            · have g2 : (0 : Int) ≤ (a : Int) ∧ (a : Int) < ((rd t.fNodes (i : Int)).fAttrs.length : Int) := by omega
              simp only [ref04_Few.b1, jn]
              rw [gd g1, gd g1, gd g2, show decide ((a : Int) < ((rd t.fNodes (i : Int)).fAttrs.length : Int)) = true by simp [ha], cond_true]
              cases he : decide (((rd (rd t.fNodes (i : Int)).fAttrs (a : Int)).fName.length : Int) > 40) with
              | true => exact ⟨false, rfl, fun h => by cases h⟩
              | false =>
                cases hf : decide (((rd (rd t.fNodes (i : Int)).fAttrs (a : Int)).fNames.length : Int) > 25) with
                | true => exact ⟨false, rfl, fun h => by cases h⟩
                | false =>
                  simp at he hf
                  rw [cond_false, cond_false]
                  refine (loop1_out (I := fun _ => True) (P := fun m b => b = true → (∀ j : Nat, m ≤ j → j < (rd (rd t.fNodes (i : Int)).fAttrs (a : Int)).fNames.length → (rd (rd (rd t.fNodes (i : Int)).fAttrs (a : Int)).fNames (j : Int)).length ≤ 40) ∧ (∀ j : Nat, a + 1 ≤ j → j < (rd t.fNodes (i : Int)).fAttrs.length → FewA (rd (rd t.fNodes (i : Int)).fAttrs (j : Int))) ∧ (∀ j : Nat, i + 1 ≤ j → j < t.fNodes.length → FewN (rd t.fNodes (j : Int))) ∧ (∀ j : Nat, j < t.fEdges.length → (rd t.fEdges (j : Int)).fName.length ≤ 40))
                    (rd (rd t.fNodes (i : Int)).fAttrs (a : Int)).fNames.length (fun _ rec2 => ?_) (fun m hm _ rec2 ih2 => ?_) k 0 (Nat.zero_le _) (by omega) trivial).mono fun b hb e => ?_
                  · simp only [ref04_Few.b2, show decide ((((rd (rd t.fNodes (i : Int)).fAttrs (a : Int)).fNames.length : Nat) : Int) < ((rd (rd t.fNodes (i : Int)).fAttrs (a : Int)).fNames.length : Int)) = false by simp, cond_false, gd (inR_nat (n := a) (by omega))]
                    exact (ih1 trivial).mono fun b hb e => ⟨fun j h1 h2 => by omega, hb e⟩
                  · rw [ref04_Few.b2, show decide ((m : Int) < ((rd (rd t.fNodes (i : Int)).fAttrs (a : Int)).fNames.length : Int)) = true by simp [hm], cond_true, gd (show (0 : Int) ≤ (m : Int) ∧ (m : Int) < ((rd (rd t.fNodes (i : Int)).fAttrs (a : Int)).fNames.length : Int) by omega), gd (inR_nat (n := m) (by omega))]
                    cases hc : decide (((rd (rd (rd t.fNodes (i : Int)).fAttrs (a : Int)).fNames (m : Int)).length : Int) > 40) with
                    | true => exact ⟨false, rfl, fun h => by cases h⟩
                    | false =>
                      simp at hc
                      refine (ih2 trivial).mono fun b hb e => ⟨fun j h1 h2 => ?_, (hb e).2⟩
                      rcases Nat.eq_or_lt_of_le h1 with rfl | h3
                      · omega
                      · exact (hb e).1 j h3 h2
                  · refine ⟨fun j h1 h2 => ?_, (hb e).2.2⟩
                    rcases Nat.eq_or_lt_of_le h1 with rfl | h3
                    · exact ⟨by omega, by omega, rd_cover fun j hj => (hb e).1 j (Nat.zero_le _) hj⟩
                    · exact (hb e).2.1 j h3 h2
            · refine ⟨fun j h1 h2 => ?_, (hb e).2.2⟩
              rcases Nat.eq_or_lt_of_le h1 with rfl | h3
              · exact ⟨by omega, by omega, fun j hj => (hb e).1 j (Nat.zero_le _) hj⟩
              · exact (hb e).2.1 j h3 h2
      · obtain ⟨hn, he⟩ := hb e
        have hn' : ∀ x ∈ t.fNodes, FewN x := rd_cover fun j hj => hn j (Nat.zero_le _) hj
        exact ⟨by omega, by omega, fun n h => (hn' n h).name, fun n h => (hn' n h).attrs, fun n h => rd_cover (hn' n h).attr, rd_cover he⟩
theorem ref05_Few_eq {k : Nat} (g : Graph) : ref05_Few k g = some (decide ((g.fNodes.length : Int) ≤ 45) && decide ((g.fEdges.length : Int) ≤ 90)) := by
  simp only [ref05_Few, jn]; cases decide ((g.fNodes.length : Int) ≤ 45) <;> rfl
structure LightP (t : Types) (p g : Graph) : Prop where
  small : Small t p g
  few : givenS t p g = 0 → p.fNodes.length + p.fEdges.length ≤ 6 ∧ g.fNodes.length ≤ 8 ∧ g.fEdges.length ≤ 12
end Go.Proofs.YthmdmchmmgmblaaGreat

namespace Go.Proofs.YthmdmchmmgmblaaGreat
open Go Go.Abs

theorem anyN_mem {l : List Int} {b : Int} : anyN (fun j => b == rd l (j : Int)) 0 l.length = decide (b ∈ l) := by
  rw [Bool.eq_iff_iff, anyN_iff, decide_eq_true_eq]
  constructor
  · rintro ⟨j, _, hj, h⟩
    have : b = rd l (j : Int) := by simpa using h
    rw [this]; exact rd_mem (by omega) (by omega)
  · intro h
    obtain ⟨i, hi, rfl⟩ := List.mem_iff_getElem.1 h
    exact ⟨i, Nat.zero_le _, hi, by simp [rd, List.getD, List.getElem?_eq_getElem hi]⟩
theorem rd_set {α : Type} [Inhabited α] {l : List α} {x y : Int} {v : α} (h0 : 0 ≤ x) (hx : x < (l.length : Int)) (hy : 0 ≤ y) : rd (l.set x.toNat v) y = if y = x then v else rd l y := by
  unfold rd
  by_cases h : y = x
  · subst h
    have : y.toNat < l.length := by omega
    simp [List.getD, List.getElem?_set, this]
  · have : ¬ x.toNat = y.toNat := by omega
    simp [List.getD, List.getElem?_set, this, h]
theorem mem_rd {l : List Int} {b : Int} : b ∈ l ↔ ∃ x : Int, 0 ≤ x ∧ x < (l.length : Int) ∧ b = rd l x := by
  constructor
  · intro h
    obtain ⟨i, hi, rfl⟩ := List.mem_iff_getElem.1 h
    exact ⟨i, by omega, by omega, by simp [rd, List.getD, List.getElem?_eq_getElem hi]⟩
  · rintro ⟨x, h0, h1, rfl⟩; exact rd_mem h0 h1
theorem swap_mem {l : List Int} {i j : Int} (hi0 : 0 ≤ i) (hi : i < (l.length : Int)) (hj0 : 0 ≤ j) (hj : j < (l.length : Int)) (b : Int) : b ∈ (l.set i.toNat (rd l j)).set j.toNat (rd l i) ↔ b ∈ l := by
  have hg : ∀ y : Int, 0 ≤ y → rd ((l.set i.toNat (rd l j)).set j.toNat (rd l i)) y = if y = j then rd l i else if y = i then rd l j else rd l y := by
    intro y hy
    rw [rd_set hj0 (by simp; omega) hy, rd_set hi0 hi hy]
  rw [mem_rd, mem_rd]
  simp only [List.length_set]
  constructor
  · rintro ⟨x, h0, h1, rfl⟩
    rw [hg x h0]
    by_cases e1 : x = j
    · rw [if_pos e1]; exact ⟨i, hi0, hi, rfl⟩
    · rw [if_neg e1]
      by_cases e2 : x = i
      · rw [if_pos e2]; exact ⟨j, hj0, hj, rfl⟩
      · rw [if_neg e2]; exact ⟨x, h0, h1, rfl⟩
  · rintro ⟨x, h0, h1, rfl⟩
    by_cases e1 : x = i
    · subst e1; exact ⟨j, hj0, hj, by rw [hg j hj0, if_pos rfl]⟩
    · by_cases e2 : x = j
      · subst e2
        exact ⟨i, hi0, hi, by rw [hg i hi0, if_neg (fun h => e1 h.symm), if_pos rfl]⟩
      · exact ⟨x, h0, h1, by rw [hg x h0, if_neg e2, if_neg e1]⟩
theorem Reverse_out : ∀ (k : Nat) (l : List Int) (i j : Int), 0 ≤ i → j < (l.length : Int) → l.length ≤ 1000000 → (j - i).toNat < k → i ≤ 1000000 → -10 ≤ j →
    Out (loop3 k slices_Reverse_int.b0 l i j) (fun r => r.length = l.length ∧ ∀ b, b ∈ r ↔ b ∈ l)
  | 0, l, i, j, _, _, _, h, _, _ => by omega
  | k + 1, l, i, j, h0, h1, h2, h3, h4, h5 => by
    unfold loop3
    cases hb : decide (i < j) with
    | false => exact ⟨l, by rw [slices_Reverse_int.b0, hb, cond_false], rfl, fun _ => Iff.rfl⟩
    | true =>
      simp at hb
      rw [slices_Reverse_int.b0, decide_eq_true hb, cond_true, gd (by omega), gd (by omega), gd (by omega), gd (by rw [List.length_set]; omega), gd (inR_of (by omega)), gd (inR_of (by omega))]
      refine (Reverse_out k _ (i + 1) (j - 1) (by omega) (by simp; omega) (by simpa using h2) (by omega) (by omega) (by omega)).mono fun r hr => ⟨by simpa using hr.1, fun b => ?_⟩
      rw [hr.2 b, swap_mem (by omega) (by omega) (by omega) (by omega)]

def chain (ns : List NodeType) : Nat → Int → List Int
  | 0, _ => []
  | d + 1, a => bif decide (a < 0) then [] else a :: chain ns d (rd ns a).fParent
theorem chain_neg {ns : List NodeType} {d : Nat} {a : Int} (h : a < 0) : chain ns d a = [] := by cases d <;> simp [chain, h]
theorem chain_pos {ns : List NodeType} {d : Nat} {a : Int} (h : 0 ≤ a) : chain ns (d + 1) a = a :: chain ns d (rd ns a).fParent := by
  have : decide (a < 0) = false := by simp; omega
  simp [chain, this]
def isB (ns : List NodeType) (a b : Int) : Bool := decide (b ∈ chain ns 100 a)
theorem line_out {K : Nat} (hK : 200 ≤ K) {t : Types} {n : Nat} (w : WfP t.fNodes n) : ∀ (d k : Nat) (a : Int) (acc : List Int), d < k → a < (d : Int) → a < (n : Int) → acc.length + d ≤ 150 →
    Out (loop2 k (types_line.b0 K t) a acc) (fun r => r.length ≤ 150 ∧ ∀ b, b ∈ r ↔ b ∈ acc ∨ b ∈ chain t.fNodes d a)
  | d, 0, _, _, h, _, _, _ => by omega
  | d, k + 1, a, acc, hk, hd, hn, hl => by
    unfold loop2
    rcases Int.lt_or_le a 0 with ha | ha
    · rw [types_line.b0, decide_eq_false (show ¬ a ≥ 0 by omega), cond_false, slices_Reverse_int, gd (inR_of (by omega))]
      refine Out.bind (Reverse_out K acc 0 _ (by omega) (by omega) (by omega) (by omega) (by omega) (by omega)) fun r hr => ⟨r, rfl, by omega, fun b => ?_⟩
      rw [hr.2, chain_neg ha]; simp
    · obtain ⟨d, rfl⟩ : ∃ e, d = e + 1 := ⟨d - 1, by omega⟩
      have hw := wf_at w ha hn
      have hn' := w.1
      rw [types_line.b0, decide_eq_true (show a ≥ 0 by omega), cond_true, gd (by simp [lim]; omega), gd (by omega)]
      refine (line_out hK w d k _ (acc ++ [a]) (by omega) (by omega) (by omega) (by simp; omega)).mono fun r hr => ⟨hr.1, fun b => ?_⟩
      rw [hr.2, chain_pos ha]; simp [or_assoc]
theorem types_is_eq {k : Nat} (hk : 200 ≤ k) {t : Types} {n : Nat} (w : WfP t.fNodes n) (hn : n ≤ 50) {a b : Int} (ha : a < (n : Int)) : types_is k t a b = some (isB t.fNodes a b) := by
  unfold types_is types_line
  obtain ⟨r, e, h1, h2⟩ := line_out (K := k) hk w 100 k a [] (by omega) (by omega) ha (by simp)
  rw [e, Option.bind_some, Contains_int _ _ (by omega) (by omega), Option.bind_some, anyN_mem]
  congr 1
  unfold isB
  rw [Bool.eq_iff_iff, decide_eq_true_eq, decide_eq_true_eq, h2]; simp
theorem Below1_eq {t : Types} {n : Nat} (w : WfP t.fNodes n) {b : Int} (hb : 0 ≤ b) : ∀ (d k : Nat) (a : Int), d < k → -1 ≤ a → a < (d : Int) → a < (n : Int) → ref04_Below1 k t a b = some (decide (b ∈ chain t.fNodes d a))
  | d, 0, _, h, _, _, _ => by omega
  | d, k + 1, a, hk, h1, hd, hn => by
    unfold ref04_Below1 ref04_Below1.main
    rcases Int.lt_or_le a 0 with ha | ha
    · have e1 : (a == b) = false := by simp; omega
      rw [jn, e1, cond_false, decide_eq_false (show ¬ a ≥ 0 by omega), cond_false, chain_neg ha]
      simp
    · obtain ⟨d, rfl⟩ : ∃ e, d = e + 1 := ⟨d - 1, by omega⟩
      have hw := wf_at w ha hn
      have hn' := w.1
      rw [jn, chain_pos ha]
      by_cases e : a = b
      · subst e; simp
      · have e1 : (a == b) = false := by simp [e]
        rw [e1, cond_false, decide_eq_true (show a ≥ 0 by omega), cond_true, gd (by omega), Below1_eq w hb d k _ (by omega) (by omega) (by omega) (by omega), Option.bind_some]
        congr 1
        rw [Bool.eq_iff_iff, decide_eq_true_eq, decide_eq_true_eq, List.mem_cons]
        exact ⟨.inr, fun h => h.resolve_left fun h => e h.symm⟩
theorem ref04_Below1_eq {k : Nat} (hk : 200 ≤ k) {t : Types} {n : Nat} (w : WfP t.fNodes n) (hn : n ≤ 50) {a b : Int} (h0 : 0 ≤ a) (ha : a < (n : Int)) (hb : 0 ≤ b) : ref04_Below1 k t a b = some (isB t.fNodes a b) :=
  Below1_eq w hb 100 k a (by omega) (by omega) (by omega) ha

theorem types_given_eq {k : Nat} (hk : 200 ≤ k) {t : Types} (ht : FewT t) (hv : validS t = 0) {a : Int} (h0 : 0 ≤ a) (ha : a < (t.fNodes.length : Int)) : types_given k t [a] = some 0 := by
  obtain ⟨r, e, hr⟩ := types_Valid_out hk ht
  unfold types_given
  rw [e, Option.bind_some, hr, hv]
  rw [ContainsFunc_int (k := k) [a] (fun x => types_given_1 k x t) (fun j => decide (rd [a] (j : Int) < 0) || decide (rd [a] (j : Int) ≥ (t.fNodes.length : Int))) (by simp; omega) (by simp) (fun j _ => by
    simp only [types_given_1, jn]; cases decide (rd [a] (j : Int) < 0) <;> rfl)]
  rw [anyN_none fun j _ hj => ?_]
  · rfl
  · have : j = 0 := by simp at hj; omega
    subst this
    have e : rd [a] ((0 : Nat) : Int) = a := rfl
    rw [e, decide_eq_false (by omega), decide_eq_false (by omega)]; rfl
structure Table (ns : List NodeType) (M : List (List Bool)) (i : Nat) : Prop where
  len : M.length = i
  row : ∀ a : Nat, a < i → (rd M (a : Int)).length = ns.length
  at' : ∀ a : Nat, a < i → ∀ b : Nat, b < ns.length → rd (rd M (a : Int)) (b : Int) = isB ns (b : Int) (a : Int)
end Go.Proofs.YthmdmchmmgmblaaGreat

namespace Go.Proofs.YthmdmchmmgmblaaGreat
open Go Go.Abs

/-- The pattern with the types of the images. -/
structure InstP (p g : Graph) (m : Morphism) (r : Graph × Int) : Prop where
  ok : r.2 = 0
  edges : r.1.fEdges = p.fEdges
  len : r.1.fNodes.length = m.fNodes.length
  at' : ∀ j : Nat, j < m.fNodes.length → rd r.1.fNodes (j : Int) = rd g.fNodes (rd m.fNodes (j : Int))
end Go.Proofs.YthmdmchmmgmblaaGreat

namespace Go.Proofs.YthmdmchmmgmblaaGreat
open Go Go.Abs

/-- A problem: pattern, graph, node types, given images (-1: none), injective or not. -/
structure Pb where
  p : Graph
  g : Graph
  ns : List NodeType
  pn : Int → Int
  pe : Int → Int
  inj : Bool
def eqE (q : Pb) (l : List Int) (i k : Int) : Bool :=
  ((rd q.p.fEdges i).fType == (rd q.g.fEdges k).fType) && (((rd q.g.fEdges k).fFrom == rd l (rd q.p.fEdges i).fFrom) && ((rd q.g.fEdges k).fTo == rd l (rd q.p.fEdges i).fTo))
def cut (N : Nat) (o L : List Morphism) : List Morphism := (o ++ L).take N
/-! ### A pruned branch holds nothing -/
/-! ### Loops that carry what is found -/
/-! ### The program's way -/
/-- What a search is about; the sizes are those of a light case. -/
structure Ctx (q : Pb) : Prop where
  gp : GoodG q.p
  gg : GoodG q.g
  tp : ∀ j : Nat, j < q.p.fNodes.length → rd q.p.fNodes (j : Int) < (q.ns.length : Int)
  tg : ∀ j : Nat, j < q.g.fNodes.length → rd q.g.fNodes (j : Int) < (q.ns.length : Int)
  wf : WfP q.ns q.ns.length
  few : q.ns.length ≤ 50
end Go.Proofs.YthmdmchmmgmblaaGreat

namespace Go.Proofs.YthmdmchmmgmblaaGreat
open Go Go.Abs

/-! ### The reference's way -/
structure RefP (q : Pb) (t : Types) (part : Morphism) : Prop where
  ns : t.fNodes = q.ns
  ln : part.fNodes.length = q.p.fNodes.length
  le : part.fEdges.length = q.p.fEdges.length
  pn : ∀ i : Nat, i < q.p.fNodes.length → rd part.fNodes (i : Int) = q.pn (i : Int)
  pe : ∀ i : Nat, i < q.p.fEdges.length → rd part.fEdges (i : Int) = q.pe (i : Int)
end Go.Proofs.YthmdmchmmgmblaaGreat

namespace Go.Proofs.YthmdmchmmgmblaaGreat
open Go Go.Abs

/-- A match without images. -/
structure AllNeg (p : Graph) (m : Morphism) : Prop where
  ln : m.fNodes.length = p.fNodes.length
  le : m.fEdges.length = p.fEdges.length
  n : ∀ i : Nat, i < p.fNodes.length → rd m.fNodes (i : Int) = -1
  e : ∀ i : Nat, i < p.fEdges.length → rd m.fEdges (i : Int) = -1
end Go.Proofs.YthmdmchmmgmblaaGreat

namespace Go.Proofs.YthmdmchmmgmblaaGreat
open Go Go.Abs

/-! ### All: what is found is a match, and in order -/
structure EdgesOk (q : Pb) (l e : List Int) : Prop where
  fit : ∀ i : Nat, i < e.length → 0 ≤ rd e (i : Int) ∧ rd e (i : Int) < (q.g.fEdges.length : Int) ∧ eqE q l (i : Int) (rd e (i : Int)) = true
  inj : q.inj = true → e.Nodup
structure NodesOk (q : Pb) (l : List Int) : Prop where
  fit : ∀ i : Nat, i < l.length → 0 ≤ rd l (i : Int) ∧ rd l (i : Int) < (q.g.fNodes.length : Int) ∧ isB q.ns (rd q.g.fNodes (rd l (i : Int))) (rd q.p.fNodes (i : Int)) = true
  inj : q.inj = true → l.Nodup
end Go.Proofs.YthmdmchmmgmblaaGreat

namespace Go.Proofs.YthmdmchmmgmblaaGreat
open Go Go.Abs

theorem set_rd {α : Type} [Inhabited α] {l : List α} {i : Nat} (hi : i < l.length) : l.set i (rd l (i : Int)) = l := by
  have : rd l (i : Int) = l[i] := by simp [rd, List.getD, List.getElem?_eq_getElem hi]
  rw [this, List.set_getElem_self]
theorem take_rdA {α : Type} [Inhabited α] {l : List α} {i : Nat} (hi : i < l.length) : l.take (i + 1) = l.take i ++ [rd l (i : Int)] := by
  have : rd l (i : Int) = l[i] := by simp [rd, List.getD, List.getElem?_eq_getElem hi]
  rw [this, List.take_succ_eq_append_getElem hi]
theorem Attrs_eq {k : Nat} (hk : 1000 ≤ k) {t : Types} (ht : FewT t) (hv : validS t = 0) {a : Int} (h0 : 0 ≤ a) (ha : a < (t.fNodes.length : Int)) : types_Attrs k t a = some (attrsS t.fNodes t.fNodes.length a, 0) := by
  obtain ⟨w, h12, _⟩ := valid_wf hv
  have hl := attrsS_len w (fun x hx => ht.nattr x hx) t.fNodes.length a ha
  have hA := attrsS_all (G := FewA) w (fun x hx => ht.attr x hx) t.fNodes.length a ha
  unfold types_Attrs
  rw [types_given_eq (by omega) ht hv h0 ha, Option.bind_some, bne_self_eq_false, cond_false, types_attrs_eq w (fun x hx => ht.nattr x hx) t.fNodes.length k a (by omega) (by omega) h0 ha ha, Option.bind_some]
  generalize attrsS t.fNodes t.fNodes.length a = l at *
  refine Out.eq (loop2_out (S := List Attr) (P := fun _ _ r => r = (l, 0)) (I := fun s _ => s = l) l.length (fun s hs rec => ?_) (fun s i hi hs rec ih => ?_) k 0 l (Nat.zero_le _) (by omega) rfl)
  · rw [types_Attrs.b0, decide_eq_false (show ¬ (l.length : Int) < (l.length : Int) by omega), cond_false, hs]; exact ⟨_, rfl, rfl⟩
  · subst hs
    have hf := (hA _ (rd_mem (l := s) (x := (i : Int)) (by omega) (by omega))).names
    rw [types_Attrs.b0, decide_eq_true (show (i : Int) < (s.length : Int) by omega), cond_true, gd ⟨by omega, by omega⟩]
    unfold slices_Clone_string
    rw [gd (show (rd s (i : Int)).fNames.length ≤ lim by unfold lim; omega), Option.bind_some, gd ⟨by omega, by omega⟩, gd (inR_nat (n := i) (by omega))]
    exact ih _ (set_rd hi)
theorem ref04_given_eq {k : Nat} (hk : 200 ≤ k) {t : Types} (ht : FewT t) (hv : validS t = 0) {a b : Int} (h0 : 0 ≤ a) (ha : a < (t.fNodes.length : Int)) (g0 : 0 ≤ b) (gb : b < (t.fNodes.length : Int)) : ref04_given k t a b = some 0 := by
  obtain ⟨r, e, hr⟩ := ref04_Valid_out hk ht
  have h20 := ht.nodes
  unfold ref04_given jn; dsimp only
  rw [e, Option.bind_some, hr, hv, bne_self_eq_false, cond_false, gd (inR_of (by omega)), ref04_in_eq, Option.bind_some]
  rw [decide_eq_true (show a ≥ 0 by omega), decide_eq_true (show a ≤ (t.fNodes.length : Int) - 1 by omega), Bool.and_true, Bool.not_true, cond_false, gd (inR_of (by omega)), ref04_in_eq, Option.bind_some]
  rw [decide_eq_true (show b ≥ 0 by omega), decide_eq_true (show b ≤ (t.fNodes.length : Int) - 1 by omega)]; rfl
theorem ref04_Attrs_eq {k : Nat} (hk : 1000 ≤ k) {t : Types} (ht : FewT t) (hv : validS t = 0) {a : Int} (h0 : 0 ≤ a) (ha : a < (t.fNodes.length : Int)) : ref04_Attrs k t a = some (attrsS t.fNodes t.fNodes.length a, 0) := by
  obtain ⟨w, h12, _⟩ := valid_wf hv
  have hl := attrsS_len w (fun x hx => ht.nattr x hx) t.fNodes.length a ha
  have hA := attrsS_all (G := FewA) w (fun x hx => ht.attr x hx) t.fNodes.length a ha
  unfold ref04_Attrs
  rw [ref04_given_eq (by omega) ht hv h0 ha h0 ha, Option.bind_some, bne_self_eq_false, cond_false, ref04_attrs_eq w (fun x hx => ht.nattr x hx) t.fNodes.length k a (by omega) (by omega) ha ha, Option.bind_some]
  generalize attrsS t.fNodes t.fNodes.length a = l at *
  refine Out.eq (loop2_out (S := List Attr) (P := fun _ _ r => r = (l, 0)) (I := fun s i => s = l.take i) l.length (fun s hs rec => ?_) (fun s i hi hs rec ih => ?_) k 0 [] (Nat.zero_le _) (by omega) rfl)
  · rw [ref04_Attrs.b0, decide_eq_false (show ¬ (l.length : Int) < (l.length : Int) by omega), cond_false, hs, List.take_length]; exact ⟨_, rfl, rfl⟩
  · have hf := (hA _ (rd_mem (l := l) (x := (i : Int)) (by omega) (by omega))).names
    have hsl : s.length ≤ 360 := by rw [hs, List.length_take]; omega
    rw [ref04_Attrs.b0, decide_eq_true (show (i : Int) < (l.length : Int) by omega), cond_true, gd ⟨by omega, by omega⟩, gd (show (rd l (i : Int)).fNames.length ≤ lim by unfold lim; omega), gd (show s.length + [rd l (i : Int)].length ≤ lim by unfold lim; simp; omega), gd (inR_nat (n := i) (by omega))]
    exact ih _ (by rw [hs, take_rdA hi])
end Go.Proofs.YthmdmchmmgmblaaGreat

namespace Go.Proofs.YthmdmchmmgmblaaGreat
open Go Go.Abs

/-- A type graph without error, and a graph whose nodes have its types. -/
structure Over (t : Types) (g : Graph) : Prop where
  few : FewT t
  val : validS t = 0
  nodes : ∀ x ∈ g.fNodes, 0 ≤ x ∧ x < (t.fNodes.length : Int)
  len : g.fNodes.length ≤ 45
theorem Over.attrs {t : Types} {g : Graph} (h : Over t g) {n : Int} (h0 : 0 ≤ n) (h1 : n < (g.fNodes.length : Int)) : (attrsS t.fNodes t.fNodes.length (rd g.fNodes n)).length ≤ 360 := by
  obtain ⟨w, h12, _⟩ := valid_wf h.val
  have hm := h.nodes _ (rd_mem h0 h1)
  have := attrsS_len w (fun x hx => h.few.nattr x hx) t.fNodes.length _ hm.2
  omega
/-! ### Tests -/
end Go.Proofs.YthmdmchmmgmblaaGreat

namespace Go.Proofs.YthmdmchmmgmblaaGreat
open Go Go.Abs

def firstF (e : Nat → Int) (z : Int × Int) : Nat → Nat → Int × Int
  | _, 0 => z
  | i, d + 1 => bif e i != 0 then ((i : Int), e i) else firstF e z (i + 1) d
/-- The first place with an error, and it; else 'z'. -/
def first (e : Nat → Int) (z : Int × Int) (i n : Nat) : Int × Int := firstF e z i (n - i)
theorem first_end {e : Nat → Int} {z : Int × Int} {n : Nat} : first e z n n = z := by simp [first, firstF]
theorem first_step {e : Nat → Int} {z : Int × Int} {i n : Nat} (h : i < n) : first e z i n = bif e i != 0 then ((i : Int), e i) else first e z (i + 1) n := by
  have : n - i = (n - (i + 1)) + 1 := by omega
  unfold first; rw [this]; rfl
theorem valid_edge {t : Types} (h : validS t = 0) {j : Nat} (hj : j < t.fEdges.length) : insB (rd t.fEdges (j : Int)).fFrom t = true ∧ insB (rd t.fEdges (j : Int)).fTo t = true := by
  unfold validS at h
  cases h0 : ((t.fNodes.length : Int) == 0) with
  | true => rw [h0] at h; cases h
  | false =>
    cases h1 : decide ((t.fNodes.length : Int) > 12) || decide ((t.fEdges.length : Int) > 20) with
    | true => rw [h0, h1] at h; cases h
    | false =>
      rw [h0, h1, cond_false, cond_false] at h
      unfold valid2S at h
      cases h2 : (scan (nodeErr t) 0 t.fNodes.length != 0) with
      | true => rw [h2, cond_true] at h; rw [h] at h2; cases h2
      | false =>
        rw [h2, cond_false] at h
        have he := scan_zero h j (Nat.zero_le _) hj
        unfold edgeErr at he
        cases a1 : isNameB (rd t.fEdges (j : Int)).fName with
        | false => rw [a1] at he; cases he
        | true =>
          cases a2 : anyN (fun q => (rd t.fEdges (q : Int)).fName == (rd t.fEdges (j : Int)).fName) 0 j with
          | true => rw [a1, a2] at he; cases he
          | false =>
            cases a3 : insB (rd t.fEdges (j : Int)).fFrom t with
            | false => rw [a1, a2, a3] at he; cases he
            | true =>
              cases a4 : insB (rd t.fEdges (j : Int)).fTo t with
              | false => rw [a1, a2, a3, a4] at he; cases he
              | true => exact ⟨rfl, rfl⟩
theorem insB_range {a : Int} {t : Types} (h : insB a t = true) : 0 ≤ a ∧ a < (t.fNodes.length : Int) := by
  unfold insB at h; simpa using h
theorem types_given2_eq {k : Nat} (hk : 200 ≤ k) {t : Types} (ht : FewT t) (hv : validS t = 0) {a b : Int} (h0 : 0 ≤ a) (ha : a < (t.fNodes.length : Int)) (g0 : 0 ≤ b) (gb : b < (t.fNodes.length : Int)) : types_given k t [a, b] = some 0 := by
  obtain ⟨r, e, hr⟩ := types_Valid_out hk ht
  unfold types_given
  rw [e, Option.bind_some, hr, hv]
  rw [ContainsFunc_int (k := k) [a, b] (fun x => types_given_1 k x t) (fun j => decide (rd [a, b] (j : Int) < 0) || decide (rd [a, b] (j : Int) ≥ (t.fNodes.length : Int))) (by simp; omega) (by simp) (fun j _ => by
    simp only [types_given_1, jn]; cases decide (rd [a, b] (j : Int) < 0) <;> rfl)]
  rw [anyN_none fun j _ hj => ?_]
  · rfl
  · have : j = 0 ∨ j = 1 := by simp at hj; omega
    rcases this with rfl | rfl
    · have e : rd [a, b] ((0 : Nat) : Int) = a := rfl
      rw [e, decide_eq_false (by omega), decide_eq_false (by omega)]; rfl
    · have e : rd [a, b] ((1 : Nat) : Int) = b := rfl
      rw [e, decide_eq_false (by omega), decide_eq_false (by omega)]; rfl
def fitsB (t : Types) (e a b : Int) : Bool := isB t.fNodes a (rd t.fEdges e).fFrom && isB t.fNodes b (rd t.fEdges e).fTo
theorem Fits_eq {k : Nat} (hk : 200 ≤ k) {t : Types} (ht : FewT t) (hv : validS t = 0) {e a b : Int} (e0 : 0 ≤ e) (e1 : e < (t.fEdges.length : Int)) (h0 : 0 ≤ a) (ha : a < (t.fNodes.length : Int)) (g0 : 0 ≤ b) (gb : b < (t.fNodes.length : Int)) :
    types_Fits k t e a b = some (fitsB t e a b) := by
  obtain ⟨w, h12, _⟩ := valid_wf hv
  unfold types_Fits fitsB jn; dsimp only
  rw [types_given2_eq hk ht hv h0 ha g0 gb, Option.bind_some, bne_self_eq_false, cond_false, decide_eq_false (show ¬ e < 0 by omega), cond_false, decide_eq_false (show ¬ e ≥ (t.fEdges.length : Int) by omega), cond_false, gd ⟨e0, e1⟩, types_is_eq hk w (by omega) ha, Option.bind_some]
  cases isB t.fNodes a (rd t.fEdges e).fFrom with
  | false => rfl
  | true => rw [cond_true, gd ⟨e0, e1⟩, types_is_eq hk w (by omega) gb]; rfl
theorem ref_Fits_eq {k : Nat} (hk : 200 ≤ k) {t : Types} (ht : FewT t) (hv : validS t = 0) {e a b : Int} (e0 : 0 ≤ e) (e1 : e < (t.fEdges.length : Int)) (h0 : 0 ≤ a) (ha : a < (t.fNodes.length : Int)) (g0 : 0 ≤ b) (gb : b < (t.fNodes.length : Int)) :
    ref04_Fits k t e a b = some (fitsB t e a b) := by
  obtain ⟨w, h12, h20⟩ := valid_wf hv
  have hE := valid_edge hv (j := e.toNat) (by omega)
  rw [Int.toNat_of_nonneg e0] at hE
  have f1 := insB_range hE.1; have f2 := insB_range hE.2
  unfold ref04_Fits fitsB jn; dsimp only
  rw [ref04_given_eq hk ht hv h0 ha g0 gb, Option.bind_some, bne_self_eq_false, cond_false, gd (inR_of (by omega)), ref04_in_eq, Option.bind_some, decide_eq_true (show e ≥ 0 by omega), decide_eq_true (show e ≤ (t.fEdges.length : Int) - 1 by omega), Bool.and_true, Bool.not_true, cond_false, gd ⟨e0, e1⟩,
    ref04_Below1_eq hk w (by omega) h0 ha f1.1, Option.bind_some]
  cases isB t.fNodes a (rd t.fEdges e).fFrom with
  | false => rfl
  | true => rw [cond_true, gd ⟨e0, e1⟩, ref04_Below1_eq hk w (by omega) g0 gb f2.1]; rfl
def outB (l : List Attr) (vs : List Int) (i : Nat) : Bool := decide (rd vs (i : Int) < (rd l (i : Int)).fLow) || decide (rd vs (i : Int) > (rd l (i : Int)).fHigh)
def nodeV (t : Types) (kind : Int) (vs : List Int) : Int :=
  bif decide (kind ≥ (t.fNodes.length : Int)) then 6 else bif (rd t.fNodes kind).fAbstract then 13 else bif ((vs.length : Int) != ((attrsS t.fNodes t.fNodes.length kind).length : Int)) then 20
  else bif anyN (outB (attrsS t.fNodes t.fNodes.length kind) vs) 0 (attrsS t.fNodes t.fNodes.length kind).length then 6 else 0
theorem node_eq {k : Nat} (hk : 1000 ≤ k) {t : Types} (ht : FewT t) (hv : validS t = 0) {a : Int} (h0 : 0 ≤ a) (vs : List Int) : host_node k t a vs = some (nodeV t a vs) := by
  obtain ⟨w, h12, _⟩ := valid_wf hv
  unfold host_node nodeV
  by_cases c : a ≥ (t.fNodes.length : Int)
  · rw [decide_eq_true c]; rfl
  · have ha : a < (t.fNodes.length : Int) := by omega
    have hl := attrsS_len w (fun x hx => ht.nattr x hx) t.fNodes.length a ha
    rw [decide_eq_false c, cond_false, cond_false, gd ⟨h0, ha⟩, Attrs_eq hk ht hv h0 ha, Option.bind_some]
    cases (rd t.fNodes a).fAbstract with
    | true => rfl
    | false =>
      rw [cond_false, cond_false]
      generalize attrsS t.fNodes t.fNodes.length a = l at *
      cases c2 : ((vs.length : Int) != (l.length : Int)) with
      | true => rfl
      | false =>
        have c2' : (vs.length : Int) = (l.length : Int) := by simpa using c2
        rw [cond_false, cond_false]
        refine loop1_eq (fun i => bif anyN (outB l vs) i l.length then 6 else 0) l.length (fun rec => ?_) (fun i hi rec ih => ?_) (k := k) (i := 0) (Nat.zero_le _) (by omega)
        · rw [host_node.b0, decide_eq_false (show ¬ (l.length : Int) < (l.length : Int) by omega), cond_false, anyN_end]; rfl
        · rw [host_node.b0]; unfold jn; dsimp only
          rw [decide_eq_true (show (i : Int) < (l.length : Int) by omega), cond_true, gd ⟨by omega, by omega⟩, gd (show (0 : Int) ≤ (i : Int) ∧ (i : Int) < (vs.length : Int) by omega), gd (inR_nat (n := i) (by omega)), ih, anyN_step hi, outB]
          cases decide (rd vs (i : Int) < (rd l (i : Int)).fLow) with
          | true => rfl
          | false => rw [cond_false, gd (show (0 : Int) ≤ (i : Int) ∧ (i : Int) < (vs.length : Int) by omega)]; cases decide (rd vs (i : Int) > (rd l (i : Int)).fHigh) <;> rfl
theorem ref_node_eq {k : Nat} (hk : 1000 ≤ k) {t : Types} (ht : FewT t) (hv : validS t = 0) {a : Int} (h0 : 0 ≤ a) (vs : List Int) : ref15_node k t a vs = some (nodeV t a vs) := by
  obtain ⟨w, h12, _⟩ := valid_wf hv
  unfold ref15_node nodeV
  by_cases c : a ≥ (t.fNodes.length : Int)
  · rw [decide_eq_true c]; rfl
  · have ha : a < (t.fNodes.length : Int) := by omega
    have hl := attrsS_len w (fun x hx => ht.nattr x hx) t.fNodes.length a ha
    rw [decide_eq_false c, cond_false, cond_false, gd ⟨h0, ha⟩, ref04_Attrs_eq hk ht hv h0 ha, Option.bind_some]
    cases (rd t.fNodes a).fAbstract with
    | true => rfl
    | false =>
      rw [cond_false, cond_false]
      generalize attrsS t.fNodes t.fNodes.length a = l at *
      cases c2 : ((vs.length : Int) != (l.length : Int)) with
      | true => rfl
      | false =>
        have c2' : (vs.length : Int) = (l.length : Int) := by simpa using c2
        have gv : ∀ i, i < l.length → (0 : Int) ≤ (i : Int) ∧ (i : Int) < (vs.length : Int) := fun i hi => by omega
        have gl : ∀ i, i < l.length → (0 : Int) ≤ (i : Int) ∧ (i : Int) < (l.length : Int) := fun i hi => by omega
        rw [cond_false, cond_false]
        refine loop1_eq (fun i => bif anyN (outB l vs) i l.length then 6 else 0) l.length (fun rec => ?_) (fun i hi rec ih => ?_) (k := k) (i := 0) (Nat.zero_le _) (by omega)
        · rw [ref15_node.b0, decide_eq_false (show ¬ (l.length : Int) < (l.length : Int) by omega), cond_false, anyN_end]; rfl
        · rw [ref15_node.b0]; unfold jn; dsimp only
          rw [decide_eq_true (show (i : Int) < (l.length : Int) by omega), cond_true, gd (gv i hi), gd (gl i hi), gd (inR_nat (n := i) (by omega)), ih, anyN_step hi, outB]
          cases decide (rd vs (i : Int) < (rd l (i : Int)).fLow) with
          | true => rfl
          | false => rw [cond_false, gd (gv i hi), gd (gl i hi)]; cases decide (rd vs (i : Int) > (rd l (i : Int)).fHigh) <;> rfl
end Go.Proofs.YthmdmchmmgmblaaGreat

namespace Go.Proofs.YthmdmchmmgmblaaGreat
open Go Go.Abs

def edgeV (t : Types) (g : Graph) (i : Nat) : Int :=
  bif decide ((rd g.fEdges (i : Int)).fType ≥ (t.fEdges.length : Int)) then 6 else bif fitsB t (rd g.fEdges (i : Int)).fType (rd g.fNodes (rd g.fEdges (i : Int)).fFrom) (rd g.fNodes (rd g.fEdges (i : Int)).fTo) then 0 else 13
def hostN (t : Types) (h : Host) (i : Nat) : Int × Int := first (fun i => nodeV t (rd h.fGraph.fNodes (i : Int)) (rd h.fValues (i : Int))) (first (edgeV t h.fGraph) (-1, 0) 0 h.fGraph.fEdges.length) i h.fGraph.fNodes.length
def hostV (t : Types) (h : Host) : Int × Int :=
  bif validS t != 0 then (-1, validS t) else bif graphErr h.fGraph != 0 then (-1, graphErr h.fGraph) else bif ((h.fValues.length : Int) != (h.fGraph.fNodes.length : Int)) then (-1, 20) else hostN t h 0
/-- No node is wrong: all nodes have a type. -/
theorem nodes_typed {t : Types} {h : Host} {n : Nat} (hk : ∀ i, i < n → nodeV t (rd h.fGraph.fNodes (i : Int)) (rd h.fValues (i : Int)) = 0) : ∀ i, i < n → rd h.fGraph.fNodes (i : Int) < (t.fNodes.length : Int) := fun i hi => by
  have := hk i hi
  unfold nodeV at this
  by_cases c : rd h.fGraph.fNodes (i : Int) ≥ (t.fNodes.length : Int)
  · rw [decide_eq_true c] at this; cases this
  · omega
theorem host_edges {k : Nat} (hk : 1000 ≤ k) {t : Types} {h : Host} (ht : FewT t) (hv : validS t = 0) (hg : GoodG h.fGraph) (hn : ∀ i, i < h.fGraph.fNodes.length → rd h.fGraph.fNodes (i : Int) < (t.fNodes.length : Int)) :
    loop1 k (host_Valid.b1 k t h) 0 = some (first (edgeV t h.fGraph) (-1, 0) 0 h.fGraph.fEdges.length) ∧ loop1 k (ref15_Valid.b1 k t h) 0 = some (first (edgeV t h.fGraph) (-1, 0) 0 h.fGraph.fEdges.length) := by
  have h1 := hg.nodes; have h2 := hg.edges
  have nd : ∀ x : Int, 0 ≤ x → x < (h.fGraph.fNodes.length : Int) → 0 ≤ rd h.fGraph.fNodes x ∧ rd h.fGraph.fNodes x < (t.fNodes.length : Int) := fun x x0 x1 => by
    have a := (hg.kind x.toNat (by omega)).1; have b := hn x.toNat (by omega)
    rw [Int.toNat_of_nonneg x0] at a b
    exact ⟨a, b⟩
  constructor
  · refine loop1_eq (fun i => first (edgeV t h.fGraph) (-1, 0) i h.fGraph.fEdges.length) h.fGraph.fEdges.length (fun rec => ?_) (fun i hi rec ih => ?_) (k := k) (i := 0) (Nat.zero_le _) (by omega)
    · rw [host_Valid.b1, decide_eq_false (show ¬ (h.fGraph.fEdges.length : Int) < (h.fGraph.fEdges.length : Int) by omega), cond_false, first_end]
    · obtain ⟨r0, ⟨r1, r2⟩, r3, r4⟩ := hg.right i hi
      have n1 := nd _ r1 r2; have n2 := nd _ r3 r4
      rw [host_Valid.b1, decide_eq_true (show (i : Int) < (h.fGraph.fEdges.length : Int) by omega), cond_true, gd ⟨by omega, by omega⟩, first_step hi, edgeV]
      by_cases c : (rd h.fGraph.fEdges (i : Int)).fType ≥ (t.fEdges.length : Int)
      · rw [decide_eq_true c]; rfl
      · rw [decide_eq_false c, cond_false, gd ⟨r1, r2⟩, gd ⟨r3, r4⟩, Fits_eq (by omega) ht hv r0 (by omega) n1.1 n1.2 n2.1 n2.2, Option.bind_some, gd (inR_nat (n := i) (by omega)), ih, cond_false]
        cases fitsB t (rd h.fGraph.fEdges (i : Int)).fType (rd h.fGraph.fNodes (rd h.fGraph.fEdges (i : Int)).fFrom) (rd h.fGraph.fNodes (rd h.fGraph.fEdges (i : Int)).fTo) <;> rfl
  · refine loop1_eq (fun i => first (edgeV t h.fGraph) (-1, 0) i h.fGraph.fEdges.length) h.fGraph.fEdges.length (fun rec => ?_) (fun i hi rec ih => ?_) (k := k) (i := 0) (Nat.zero_le _) (by omega)
    · rw [ref15_Valid.b1, decide_eq_false (show ¬ (h.fGraph.fEdges.length : Int) < (h.fGraph.fEdges.length : Int) by omega), cond_false, first_end]
    · obtain ⟨r0, ⟨r1, r2⟩, r3, r4⟩ := hg.right i hi
      have n1 := nd _ r1 r2; have n2 := nd _ r3 r4
      rw [ref15_Valid.b1, decide_eq_true (show (i : Int) < (h.fGraph.fEdges.length : Int) by omega), cond_true, gd ⟨by omega, by omega⟩, first_step hi, edgeV]
      by_cases c : (rd h.fGraph.fEdges (i : Int)).fType ≥ (t.fEdges.length : Int)
      · rw [decide_eq_true c]; rfl
      · rw [decide_eq_false c, cond_false, gd ⟨r1, r2⟩, gd ⟨r3, r4⟩, ref_Fits_eq (by omega) ht hv r0 (by omega) n1.1 n1.2 n2.1 n2.2, Option.bind_some, gd (inR_nat (n := i) (by omega)), ih, cond_false]
        cases fitsB t (rd h.fGraph.fEdges (i : Int)).fType (rd h.fGraph.fNodes (rd h.fGraph.fEdges (i : Int)).fFrom) (rd h.fGraph.fNodes (rd h.fGraph.fEdges (i : Int)).fTo) <;> rfl
theorem host_nodes {k : Nat} (hk : 1000 ≤ k) {t : Types} {h : Host} (ht : FewT t) (hv : validS t = 0) (hg : GoodG h.fGraph) (hl : h.fValues.length = h.fGraph.fNodes.length) :
    loop1 k (host_Valid.b0 k t h) 0 = some (hostN t h 0) ∧ loop1 k (ref15_Valid.b0 k t h) 0 = some (hostN t h 0) := by
  have h1 := hg.nodes; have h2 := hg.edges
  constructor
  · refine Out.eq (loop1_out (I := fun i => ∀ j, j < i → nodeV t (rd h.fGraph.fNodes (j : Int)) (rd h.fValues (j : Int)) = 0) (P := fun i r => r = hostN t h i) h.fGraph.fNodes.length (fun hI rec => ?_) (fun i hi hI rec ih => ?_) k 0 (Nat.zero_le _) (by omega) (fun j hj => by omega))
    · rw [host_Valid.b0, decide_eq_false (show ¬ (h.fGraph.fNodes.length : Int) < (h.fGraph.fNodes.length : Int) by omega), cond_false, (host_edges hk ht hv hg (nodes_typed hI)).1, hostN, first_end]
      exact ⟨_, rfl, rfl⟩
    · have r0 := (hg.kind i hi).1
      rw [host_Valid.b0, decide_eq_true (show (i : Int) < (h.fGraph.fNodes.length : Int) by omega), cond_true, gd ⟨by omega, by omega⟩, gd ⟨by omega, by omega⟩, node_eq hk ht hv r0, Option.bind_some, gd (inR_nat (n := i) (by omega)), hostN, first_step hi]
      cases c : (nodeV t (rd h.fGraph.fNodes (i : Int)) (rd h.fValues (i : Int)) != 0) with
      | true => exact ⟨_, rfl, rfl⟩
      | false =>
        refine ih fun j hj => ?_
        rcases Nat.lt_succ_iff_lt_or_eq.1 hj with hj | rfl
        · exact hI j hj
        · simpa using c
  · refine Out.eq (loop1_out (I := fun i => ∀ j, j < i → nodeV t (rd h.fGraph.fNodes (j : Int)) (rd h.fValues (j : Int)) = 0) (P := fun i r => r = hostN t h i) h.fGraph.fNodes.length (fun hI rec => ?_) (fun i hi hI rec ih => ?_) k 0 (Nat.zero_le _) (by omega) (fun j hj => by omega))
    · rw [ref15_Valid.b0, decide_eq_false (show ¬ (h.fGraph.fNodes.length : Int) < (h.fGraph.fNodes.length : Int) by omega), cond_false, (host_edges hk ht hv hg (nodes_typed hI)).2, hostN, first_end]
      exact ⟨_, rfl, rfl⟩
    · have r0 := (hg.kind i hi).1
      rw [ref15_Valid.b0, decide_eq_true (show (i : Int) < (h.fGraph.fNodes.length : Int) by omega), cond_true, gd ⟨by omega, by omega⟩, gd ⟨by omega, by omega⟩, ref_node_eq hk ht hv r0, Option.bind_some, gd (inR_nat (n := i) (by omega)), hostN, first_step hi]
      cases c : (nodeV t (rd h.fGraph.fNodes (i : Int)) (rd h.fValues (i : Int)) != 0) with
      | true => exact ⟨_, rfl, rfl⟩
      | false =>
        refine ih fun j hj => ?_
        rcases Nat.lt_succ_iff_lt_or_eq.1 hj with hj | rfl
        · exact hI j hj
        · simpa using c
theorem host_valid_eq {k : Nat} (hk : 1000 ≤ k) {t : Types} {h : Host} (ht : FewT t) (hh : FewG h.fGraph) : Out (host_Valid k t h) (fun r => r.2 = (hostV t h).2 ∧ (validS t = 0 → r = hostV t h)) ∧ Out (ref15_Valid k t h) (fun r => r.2 = (hostV t h).2 ∧ (validS t = 0 → r = hostV t h)) := by
  obtain ⟨r, e, hr⟩ := types_Valid_out (k := k) (by omega) ht
  obtain ⟨r', e', hr'⟩ := ref04_Valid_out (k := k) (by omega) ht
  unfold host_Valid ref15_Valid hostV
  rw [e, Option.bind_some, hr, e', Option.bind_some, hr']
  cases hv : (validS t != 0) with
  | true => exact ⟨⟨_, rfl, rfl, fun h => by rw [h] at hv; cases hv⟩, ⟨_, rfl, rfl, fun h => by rw [h] at hv; cases hv⟩⟩
  | false =>
    have hv' : validS t = 0 := by simpa using hv
    rw [cond_false, cond_false, cond_false, graph_Valid_eq (by omega) hh, ref05_Valid_eq (by omega) hh, Option.bind_some, Option.bind_some]
    cases hg : (graphErr h.fGraph != 0) with
    | true => exact ⟨⟨_, rfl, rfl, fun _ => rfl⟩, ⟨_, rfl, rfl, fun _ => rfl⟩⟩
    | false =>
      have good := graphErr_good (show graphErr h.fGraph = 0 by simpa using hg)
      rw [cond_false, cond_false, cond_false]
      cases hl : ((h.fValues.length : Int) != (h.fGraph.fNodes.length : Int)) with
      | true => exact ⟨⟨_, rfl, rfl, fun _ => rfl⟩, ⟨_, rfl, rfl, fun _ => rfl⟩⟩
      | false =>
        have hl' : h.fValues.length = h.fGraph.fNodes.length := by have : (h.fValues.length : Int) = (h.fGraph.fNodes.length : Int) := by simpa using hl
                                                                   omega
        obtain ⟨p, q⟩ := host_nodes hk ht hv' good hl'
        rw [cond_false, cond_false, cond_false, p, q]
        exact ⟨⟨_, rfl, rfl, fun _ => rfl⟩, ⟨_, rfl, rfl, fun _ => rfl⟩⟩
end Go.Proofs.YthmdmchmmgmblaaGreat

namespace Go.Proofs.YthmdmchmmgmblaaGreat
open Go Go.Abs

structure FewH (h : Host) : Prop where
  graph : FewG h.fGraph
  len : h.fValues.length ≤ 45
  each : ∀ j : Nat, j < h.fValues.length → (rd h.fValues (j : Int)).length ≤ 12
theorem few15_out {k : Nat} (hk : 200 ≤ k) (h : Host) : Out (ref15_Few k h) (fun b => b = true → FewH h) := by
  unfold ref15_Few jn; dsimp only
  rw [ref05_Few_eq, Option.bind_some]
  cases c : (decide ((h.fGraph.fNodes.length : Int) ≤ 45) && decide ((h.fGraph.fEdges.length : Int) ≤ 90)) with
  | false => exact ⟨false, rfl, fun e => by cases e⟩
  | true =>
    rw [Bool.and_eq_true, decide_eq_true_eq, decide_eq_true_eq] at c
    rw [Bool.not_true, cond_false]
    by_cases d : (h.fValues.length : Int) > 45
    · rw [decide_eq_true d, cond_true]; exact ⟨false, rfl, fun e => by cases e⟩
    · rw [decide_eq_false d, cond_false]
      refine loop1_out (I := fun i => ∀ j : Nat, j < i → (rd h.fValues (j : Int)).length ≤ 12) (P := fun _ b => b = true → FewH h) h.fValues.length (fun hI rec => ?_) (fun i hi hI rec ih => ?_) k 0 (Nat.zero_le _) (by omega) (fun j hj => by omega)
      · rw [ref15_Few.b0, decide_eq_false (show ¬ (h.fValues.length : Int) < (h.fValues.length : Int) by omega), cond_false]
        exact ⟨true, rfl, fun _ => ⟨⟨by omega, by omega⟩, by omega, hI⟩⟩
      · rw [ref15_Few.b0, decide_eq_true (show (i : Int) < (h.fValues.length : Int) by omega), cond_true, gd ⟨by omega, by omega⟩, gd (inR_nat (n := i) (by omega))]
        by_cases e : ((rd h.fValues (i : Int)).length : Int) > 12
        · rw [decide_eq_true e, cond_true]; exact ⟨false, rfl, fun e => by cases e⟩
        · rw [decide_eq_false e, cond_false]
          refine ih fun j hj => ?_
          rcases Nat.lt_succ_iff_lt_or_eq.1 hj with hj | rfl
          · exact hI j hj
          · omega
theorem copied15 {k : Nat} (hk : 200 ≤ k) {h : Host} (hh : FewH h) : ref15_Copied k h = some h := by
  have h1 := hh.graph.nodes; have h2 := hh.graph.edges; have h3 := hh.len
  unfold ref15_Copied ref05_Copied
  rw [gd (show h.fGraph.fNodes.length ≤ lim by unfold lim; omega), gd (show h.fGraph.fEdges.length ≤ lim by unfold lim; omega), Option.bind_some]
  refine Out.eq (loop2_out (S := List (List Int)) (P := fun _ _ r => r = h) (I := fun s i => s = h.fValues.take i) h.fValues.length (fun s hs rec => ?_) (fun s i hi hs rec ih => ?_) k 0 [] (Nat.zero_le _) (by omega) rfl)
  · rw [ref15_Copied.b0, decide_eq_false (show ¬ (h.fValues.length : Int) < (h.fValues.length : Int) by omega), cond_false, hs, List.take_length]; exact ⟨_, rfl, rfl⟩
  · have he := hh.each i hi
    have hsl : s.length ≤ 45 := by rw [hs, List.length_take]; omega
    rw [ref15_Copied.b0, decide_eq_true (show (i : Int) < (h.fValues.length : Int) by omega), cond_true, gd ⟨by omega, by omega⟩, gd (show (rd h.fValues (i : Int)).length ≤ lim by unfold lim; omega), gd (show s.length + 1 ≤ lim by unfold lim; omega), gd (inR_nat (n := i) (by omega))]
    exact ih _ (by rw [hs, take_rdA hi])
end Go.Proofs.YthmdmchmmgmblaaGreat

namespace Go.Proofs.YthmdmchmmgmblaaGreat
open Go Go.Abs

def Bnd (x : Attr) : Prop := -1000000 ≤ x.fLow ∧ x.fHigh ≤ 1000000
theorem own_bounds {x : Attr} (h : attrOwn x = 0) : Bnd x := by
  unfold attrOwn at h
  cases h0 : (namesS x.fNames != 0) with
  | true => rw [h0, cond_true] at h; rw [h] at h0; cases h0
  | false =>
    rw [h0, cond_false] at h
    by_cases c : (x.fNames.length : Int) > 0
    · have hn : x.fNames.length ≤ 20 := by
        by_cases q : (x.fNames.length : Int) > 20
        · unfold namesS at h0; rw [decide_eq_true q] at h0; cases h0
        · omega
      rw [decide_eq_true c, cond_true] at h
      cases h1 : (x.fLow == 0 && x.fHigh == (x.fNames.length : Int) - 1) with
      | false => rw [h1] at h; cases h
      | true =>
        rw [Bool.and_eq_true, beq_iff_eq, beq_iff_eq] at h1
        exact ⟨by omega, by omega⟩
    · rw [decide_eq_false c, cond_false] at h
      cases h1 : (decide (-1000000 ≤ x.fLow) && (decide (x.fLow ≤ x.fHigh) && decide (x.fHigh ≤ 1000000))) with
      | false => rw [h1] at h; cases h
      | true =>
        rw [Bool.and_eq_true, Bool.and_eq_true, decide_eq_true_eq, decide_eq_true_eq, decide_eq_true_eq] at h1
        exact ⟨h1.1, h1.2.2⟩
theorem valid_node {t : Types} (h : validS t = 0) {j : Nat} (hj : j < t.fNodes.length) : nodeErr t j = 0 := by
  unfold validS at h
  cases h0 : ((t.fNodes.length : Int) == 0) with
  | true => rw [h0] at h; cases h
  | false =>
    cases h1 : decide ((t.fNodes.length : Int) > 12) || decide ((t.fEdges.length : Int) > 20) with
    | true => rw [h0, h1] at h; cases h
    | false =>
      rw [h0, h1, cond_false, cond_false] at h
      unfold valid2S at h
      cases h2 : (scan (nodeErr t) 0 t.fNodes.length != 0) with
      | true => rw [h2, cond_true] at h; rw [h] at h2; cases h2
      | false => exact scan_zero (by simpa using h2) j (Nat.zero_le _) hj
theorem node_scan {t : Types} {i : Nat} (h : nodeErr t i = 0) : scan (attrErr (attrsS t.fNodes 100 (i : Int))) ((attrsS t.fNodes 100 (i : Int)).length - (rd t.fNodes (i : Int)).fAttrs.length) (attrsS t.fNodes 100 (i : Int)).length = 0 := by
  unfold nodeErr at h
  cases h1 : isNameB (rd t.fNodes (i : Int)).fName with
  | false => rw [h1] at h; cases h
  | true =>
    cases h2 : anyN (fun j => (rd t.fNodes (j : Int)).fName == (rd t.fNodes (i : Int)).fName) 0 i with
    | true => rw [h1, h2] at h; cases h
    | false =>
      cases h3 : decide ((rd t.fNodes (i : Int)).fParent < -1) || decide ((rd t.fNodes (i : Int)).fParent ≥ (i : Int)) with
      | true => rw [h1, h2, h3] at h; cases h
      | false =>
        cases h4 : decide (((rd t.fNodes (i : Int)).fAttrs.length : Int) > 4) with
        | true => rw [h1, h2, h3, h4] at h; cases h
        | false =>
          cases h5 : decide (((attrsS t.fNodes 100 (i : Int)).length : Int) > 8) with
          | true => rw [h1, h2, h3, h4, h5] at h; cases h
          | false => rw [h1, h2, h3, h4, h5] at h; exact h
theorem rd_append {A B : List Attr} {q : Nat} (hq : q < B.length) : rd (A ++ B) ((A.length + q : Nat) : Int) = B[q] := by
  unfold rd
  rw [Int.toNat_natCast, List.getD_eq_getElem?_getD, List.getElem?_append_right (by omega), Nat.add_sub_cancel_left, List.getElem?_eq_getElem hq]; rfl
theorem node_bounds {t : Types} (h : validS t = 0) : ∀ n ∈ t.fNodes, ∀ x ∈ n.fAttrs, Bnd x := fun n hn x hx => by
  obtain ⟨i, hi, rfl⟩ := List.mem_iff_getElem.1 hn
  obtain ⟨w, h12, _⟩ := valid_wf h
  have er : rd t.fNodes (i : Int) = t.fNodes[i] := by simp [rd, List.getD, List.getElem?_eq_getElem hi]
  obtain ⟨q, hq, rfl⟩ := List.mem_iff_getElem.1 hx
  have hs := node_scan (valid_node h hi)
  rw [er] at hs
  have ea : attrsS t.fNodes 100 (i : Int) = attrsS t.fNodes 99 (rd t.fNodes (i : Int)).fParent ++ t.fNodes[i].fAttrs := by rw [attrsS_pos (by omega), er]
  have hz := scan_zero hs ((attrsS t.fNodes 100 (i : Int)).length - t.fNodes[i].fAttrs.length + q) (by omega) (by rw [ea, List.length_append]; omega)
  have eq : rd (attrsS t.fNodes 100 (i : Int)) (((attrsS t.fNodes 100 (i : Int)).length - t.fNodes[i].fAttrs.length + q : Nat) : Int) = t.fNodes[i].fAttrs[q] := by
    rw [ea, List.length_append]
    have : (attrsS t.fNodes 99 (rd t.fNodes (i : Int)).fParent).length + t.fNodes[i].fAttrs.length - t.fNodes[i].fAttrs.length + q = (attrsS t.fNodes 99 (rd t.fNodes (i : Int)).fParent).length + q := by omega
    rw [this]
    exact rd_append hq
  unfold attrErr at hz
  rw [eq] at hz
  cases h1 : isNameB t.fNodes[i].fAttrs[q].fName with
  | false => rw [h1] at hz; cases hz
  | true =>
    rw [h1, Bool.not_true, cond_false] at hz
    cases h2 : anyN (fun j => (rd (attrsS t.fNodes 100 (i : Int)) (j : Int)).fName == t.fNodes[i].fAttrs[q].fName) 0 ((attrsS t.fNodes 100 (i : Int)).length - t.fNodes[i].fAttrs.length + q) with
    | true => rw [h2] at hz; cases hz
    | false => rw [h2] at hz; exact own_bounds hz
theorem attrs_bounds {t : Types} (h : validS t = 0) {a : Int} (ha : a < (t.fNodes.length : Int)) : ∀ x ∈ attrsS t.fNodes t.fNodes.length a, Bnd x :=
  attrsS_all (valid_wf h).1 (node_bounds h) _ _ ha
end Go.Proofs.YthmdmchmmgmblaaGreat

namespace Go.Proofs.YthmdmchmmgmblaaGreat
open Go Go.Abs

theorem firstF_ok {e : Nat → Int} {z : Int × Int} : ∀ (d i : Nat), (firstF e z i d).2 = 0 → ∀ j, i ≤ j → j < i + d → e j = 0
  | 0, i, _ => fun j h1 h2 => by omega
  | d + 1, i, h => fun j h1 h2 => by
    unfold firstF at h
    cases c : (e i != 0) with
    | true =>
      rw [c, cond_true] at h
      have h' : e i = 0 := h
      rw [h'] at c; cases c
    | false =>
      rw [c, cond_false] at h
      rcases Nat.eq_or_lt_of_le h1 with q | q
      · rw [← q]; simpa using c
      · exact firstF_ok d (i + 1) h j q (by omega)
structure HostOk (t : Types) (h : Host) : Prop where
  val : validS t = 0
  graph : GoodG h.fGraph
  len : h.fValues.length = h.fGraph.fNodes.length
  node : ∀ j, j < h.fGraph.fNodes.length → nodeV t (rd h.fGraph.fNodes (j : Int)) (rd h.fValues (j : Int)) = 0
theorem host_ok {t : Types} {h : Host} (e : (hostV t h).2 = 0) : HostOk t h := by
  unfold hostV at e
  cases h0 : (validS t != 0) with
  | true => rw [h0, cond_true] at e; have e' : validS t = 0 := e; rw [e'] at h0; cases h0
  | false =>
    cases h1 : (graphErr h.fGraph != 0) with
    | true => rw [h0, h1, cond_false, cond_true] at e; have e' : graphErr h.fGraph = 0 := e; rw [e'] at h1; cases h1
    | false =>
      cases h2 : ((h.fValues.length : Int) != (h.fGraph.fNodes.length : Int)) with
      | true => rw [h0, h1, h2] at e; cases e
      | false =>
        rw [h0, h1, h2, cond_false, cond_false, cond_false] at e
        have hl : (h.fValues.length : Int) = (h.fGraph.fNodes.length : Int) := by simpa using h2
        exact ⟨by simpa using h0, graphErr_good (by simpa using h1), by omega, fun j hj => firstF_ok _ _ e j (Nat.zero_le _) (by omega)⟩
theorem node_val {t : Types} {kind : Int} {vs : List Int} (h : nodeV t kind vs = 0) : kind < (t.fNodes.length : Int) ∧ vs.length = (attrsS t.fNodes t.fNodes.length kind).length ∧ ∀ j, j < vs.length → outB (attrsS t.fNodes t.fNodes.length kind) vs j = false := by
  unfold nodeV at h
  by_cases c : kind ≥ (t.fNodes.length : Int)
  · rw [decide_eq_true c] at h; cases h
  · rw [decide_eq_false c, cond_false] at h
    cases h1 : (rd t.fNodes kind).fAbstract with
    | true => rw [h1] at h; cases h
    | false =>
      cases h2 : ((vs.length : Int) != ((attrsS t.fNodes t.fNodes.length kind).length : Int)) with
      | true => rw [h1, h2] at h; cases h
      | false =>
        have hl : (vs.length : Int) = ((attrsS t.fNodes t.fNodes.length kind).length : Int) := by simpa using h2
        cases h3 : anyN (outB (attrsS t.fNodes t.fNodes.length kind) vs) 0 (attrsS t.fNodes t.fNodes.length kind).length with
        | true => rw [h1, h2, h3] at h; cases h
        | false => exact ⟨by omega, by omega, fun j hj => anyN_false h3 j (Nat.zero_le _) (by omega)⟩
end Go.Proofs.YthmdmchmmgmblaaGreat

namespace Go.Proofs.YthmdmchmmgmblaaGreat
open Go Go.Abs

theorem list_rd {α : Type} [Inhabited α] {l m : List α} (hl : l.length = m.length) (h : ∀ j : Nat, j < l.length → rd l (j : Int) = rd m (j : Int)) : l = m := by
  apply List.ext_getElem hl
  intro i h1 h2
  have := h i h1
  simpa [rd, List.getD, List.getElem?_eq_getElem h1, List.getElem?_eq_getElem h2] using this
/-- A loop that compares two lists. -/
theorem eq_loop {α : Type} [Inhabited α] [DecidableEq α] {b : (Int → Option Bool) → Int → Option Bool} {l m : List α} (hl : l.length = m.length) (hend : ∀ rec, b rec (l.length : Int) = some true)
    (hstep : ∀ i, i < l.length → ∀ rec : Int → Option Bool, b rec (i : Int) = if rd l (i : Int) = rd m (i : Int) then rec ((i : Int) + 1) else some false) {k : Nat} (hk : l.length < k) : loop1 k b 0 = some (decide (l = m)) := by
  have key : loop1 k b ((0 : Nat) : Int) = some (!anyN (fun j => !decide (rd l (j : Int) = rd m (j : Int))) 0 l.length) := by
    refine loop1_eq (fun i => !anyN (fun j => !decide (rd l (j : Int) = rd m (j : Int))) i l.length) l.length (fun rec => ?_) (fun i hi rec ih => ?_) (Nat.zero_le _) (by omega)
    · rw [hend, anyN_end]; rfl
    · rw [hstep i hi, ih, anyN_step hi]
      by_cases e : rd l (i : Int) = rd m (i : Int)
      · rw [if_pos e, decide_eq_true e, Bool.not_true, Bool.false_or]
      · rw [if_neg e, decide_eq_false e]; rfl
  have key' : loop1 k b 0 = _ := key
  rw [key']
  congr 1
  rw [Bool.eq_iff_iff, Bool.not_eq_true', decide_eq_true_eq]
  constructor
  · intro h
    exact list_rd hl fun j hj => by have := anyN_false h j (Nat.zero_le _) hj; simpa using this
  · rintro rfl
    exact anyN_none fun j _ _ => by simp
theorem wrap_zero {a b : Int} (ha : inR a) (hb : inR b) : IntKind.i64.wrap (a - b) = 0 ↔ a = b := by
  unfold inR at ha hb
  simp only [IntKind.wrap, IntKind.bits, IntKind.signed, Bool.true_and, decide_eq_true_eq]
  constructor
  · intro h
    split at h <;> omega
  · rintro rfl
    simp
theorem ne_len {α : Type} {a b : List α} (h : ((a.length : Int) != (b.length : Int)) = true) : a ≠ b := by
  rintro rfl; simp at h
theorem len_eq {α : Type} {a b : List α} (h : ((a.length : Int) != (b.length : Int)) = false) : a.length = b.length := by
  simp at h; omega
theorem edge_beq (x y : Edge) : ([x.fType, x.fFrom, x.fTo] == [y.fType, y.fFrom, y.fTo]) = decide (x = y) := by
  cases x; cases y
  rw [Bool.eq_iff_iff]
  simp
theorem host_eq (a b : Host) : (decide (a.fGraph.fNodes = b.fGraph.fNodes) && (decide (a.fGraph.fEdges = b.fGraph.fEdges) && decide (a.fValues = b.fValues))) = decide (a = b) := by
  obtain ⟨⟨n, e⟩, v⟩ := a
  obtain ⟨⟨n', e'⟩, v'⟩ := b
  rw [Bool.eq_iff_iff]
  simp [and_assoc]
/-! ### The reference -/
theorem compare_out {k : Nat} {a b : List Int} (hk : a.length < k) (ha : a.length ≤ 1000000) (hb : b.length ≤ 1000000) (ra : ∀ x ∈ a, inR x) (rb : ∀ x ∈ b, inR x) : Out (ref15_compare k a b) (fun r => r = 0 ↔ a = b) := by
  have := loop1_out (b := ref15_compare.b0 a b) (I := fun i => a.take i = b.take i ∧ i ≤ b.length) (P := fun _ r => r = 0 ↔ a = b) a.length (fun ⟨hI, hI2⟩ rec => ?_) (fun i hi ⟨hI, hI2⟩ rec ih => ?_) k 0 (Nat.zero_le _) (by omega) ⟨by simp, Nat.zero_le _⟩
  · exact this
  · rw [ref15_compare.b0]; unfold jn; dsimp only
    rw [decide_eq_false (show ¬ (a.length : Int) < (a.length : Int) by omega), cond_false, cond_false]
    refine ⟨_, rfl, ?_⟩
    show (_ : Int) = 0 ↔ a = b
    rw [wrap_zero (by unfold inR; omega) (by unfold inR; omega)]
    rw [List.take_length] at hI
    constructor
    · intro e
      rw [hI, List.take_of_length_le (by omega)]
    · rintro rfl; rfl
  · rw [ref15_compare.b0]; unfold jn; dsimp only
    rw [decide_eq_true (show (i : Int) < (a.length : Int) by omega), cond_true]
    by_cases c : i < b.length
    · rw [decide_eq_true (show (i : Int) < (b.length : Int) by omega), cond_true, gd ⟨by omega, by omega⟩, gd ⟨by omega, by omega⟩, gd (inR_nat (n := i) (by omega))]
      by_cases e : rd a (i : Int) = rd b (i : Int)
      · rw [e, bne_self_eq_false, cond_false]
        exact ih ⟨by rw [take_rdA hi, take_rdA c, hI, e], by omega⟩
      · rw [show (rd a (i : Int) != rd b (i : Int)) = true by simp [e], cond_true, gd ⟨by omega, by omega⟩, gd ⟨by omega, by omega⟩]
        refine ⟨_, rfl, ?_⟩
        show (_ : Int) = 0 ↔ a = b
        rw [wrap_zero (ra _ (rd_mem (by omega) (by omega))) (rb _ (rd_mem (by omega) (by omega)))]
        exact ⟨fun q => absurd q e, fun q => by rw [q]⟩
    · rw [decide_eq_false (show ¬ (i : Int) < (b.length : Int) by omega), cond_false]
      refine ⟨_, rfl, ?_⟩
      show (_ : Int) = 0 ↔ a = b
      rw [wrap_zero (by unfold inR; omega) (by unfold inR; omega)]
      constructor
      · intro q; omega
      · rintro rfl; rfl
theorem SameInts_dec {k : Nat} (a b : List Int) (hk : a.length < k) (ha : a.length ≤ 1000000) : ref05_SameInts k a b = some (decide (a = b)) := by
  unfold ref05_SameInts
  cases c : ((a.length : Int) != (b.length : Int)) with
  | true => rw [decide_eq_false (ne_len c)]; rfl
  | false =>
    have hl := len_eq c
    rw [cond_false]
    refine eq_loop hl (fun rec => ?_) (fun i hi rec => ?_) hk
    · rw [ref05_SameInts.b0, decide_eq_false (show ¬ (a.length : Int) < (a.length : Int) by omega), cond_false]
    · rw [ref05_SameInts.b0, decide_eq_true (show (i : Int) < (a.length : Int) by omega), cond_true, gd ⟨by omega, by omega⟩, gd ⟨by omega, by omega⟩, gd (inR_nat (n := i) (by omega))]
      by_cases e : rd a (i : Int) = rd b (i : Int)
      · rw [e, bne_self_eq_false, if_pos rfl]; rfl
      · rw [if_neg e, show (rd a (i : Int) != rd b (i : Int)) = true by simp [e]]; rfl
theorem graph_eq (a b : Graph) : (decide (a.fNodes = b.fNodes) && decide (a.fEdges = b.fEdges)) = decide (a = b) := by
  obtain ⟨n, e⟩ := a
  obtain ⟨n', e'⟩ := b
  rw [Bool.eq_iff_iff]
  simp
theorem ref05_Same_eq {k : Nat} (hk : 200 ≤ k) {a : Graph} (ha : FewG a) (b : Graph) : ref05_Same k a b = some (decide (a = b)) := by
  have h1 := ha.nodes; have h2 := ha.edges
  unfold ref05_Same jn; dsimp only
  rw [SameInts_dec _ _ (by omega) (by omega), Option.bind_some, ← graph_eq]
  cases decide (a.fNodes = b.fNodes) with
  | false => rfl
  | true =>
    rw [Bool.not_true, cond_false]
    cases c : ((a.fEdges.length : Int) != (b.fEdges.length : Int)) with
    | true => rw [decide_eq_false (ne_len c)]; rfl
    | false =>
      have hl := len_eq c
      rw [cond_false, Bool.true_and]
      refine eq_loop hl (fun rec => ?_) (fun i hi rec => ?_) (by omega)
      · rw [ref05_Same.b0, decide_eq_false (show ¬ (a.fEdges.length : Int) < (a.fEdges.length : Int) by omega), cond_false]
      · rw [ref05_Same.b0, decide_eq_true (show (i : Int) < (a.fEdges.length : Int) by omega), cond_true, gd ⟨by omega, by omega⟩, gd ⟨by omega, by omega⟩, gd (inR_nat (n := i) (by omega)), edge_beq]
        by_cases e : rd a.fEdges (i : Int) = rd b.fEdges (i : Int)
        · rw [decide_eq_true e, if_pos e]; rfl
        · rw [decide_eq_false e, if_neg e]; rfl
/-- All values fit 64 bits. -/
def RanH (h : Host) : Prop := ∀ l ∈ h.fValues, ∀ x ∈ l, inR x
theorem ref15_Same_eq {k : Nat} (hk : 200 ≤ k) {a b : Host} (ha : FewH a) (hb : FewH b) (ra : RanH a) (rb : RanH b) : ref15_Same k a b = some (decide (a = b)) := by
  have h3 := ha.len
  unfold ref15_Same jn; dsimp only
  rw [ref05_Same_eq hk ha.graph, Option.bind_some, ← host_eq, ← Bool.and_assoc, graph_eq]
  cases decide (a.fGraph = b.fGraph) with
  | false => rfl
  | true =>
    rw [Bool.not_true, cond_false]
    cases c : ((a.fValues.length : Int) != (b.fValues.length : Int)) with
    | true => rw [decide_eq_false (ne_len c)]; rfl
    | false =>
      have hl := len_eq c
      rw [cond_false, Bool.true_and]
      refine eq_loop hl (fun rec => ?_) (fun i hi rec => ?_) (by omega)
      · rw [ref15_Same.b0, decide_eq_false (show ¬ (a.fValues.length : Int) < (a.fValues.length : Int) by omega), cond_false]
      · have e1 := ha.each i hi; have e2 := hb.each i (by omega)
        obtain ⟨r, er, hr⟩ := compare_out (k := k) (a := rd a.fValues (i : Int)) (b := rd b.fValues (i : Int)) (by omega) (by omega) (by omega) (ra _ (rd_mem (by omega) (by omega))) (rb _ (rd_mem (by omega) (by omega)))
        rw [ref15_Same.b0, decide_eq_true (show (i : Int) < (a.fValues.length : Int) by omega), cond_true, gd ⟨by omega, by omega⟩, gd ⟨by omega, by omega⟩, gd (inR_nat (n := i) (by omega)), er, Option.bind_some]
        by_cases e : rd a.fValues (i : Int) = rd b.fValues (i : Int)
        · rw [if_pos e, hr.2 e, bne_self_eq_false]; rfl
        · rw [if_neg e, show (r != 0) = true by simp; exact fun q => e (hr.1 q)]; rfl
end Go.Proofs.YthmdmchmmgmblaaGreat

namespace Go.Proofs.YthmdmchmmgmblaaGreat
open Go Go.Abs

theorem host_valid2 {k : Nat} (hk : 1000 ≤ k) {t : Types} {h : Host} (ht : FewT t) (hh : FewG h.fGraph) : host_Valid k t h = some (hostV t h) ∧ ref15_Valid k t h = some (hostV t h) := by
  obtain ⟨⟨r, e, h1, h2⟩, ⟨r', e', h1', h2'⟩⟩ := host_valid_eq hk ht hh
  by_cases hv : validS t = 0
  · rw [e, e', h2 hv, h2' hv]; exact ⟨rfl, rfl⟩
  · obtain ⟨q, eq, hq⟩ := types_Valid_out (k := k) (by omega) ht
    obtain ⟨q', eq', hq'⟩ := ref04_Valid_out (k := k) (by omega) ht
    have hb : (validS t != 0) = true := by simpa using hv
    unfold host_Valid ref15_Valid hostV
    rw [eq, eq', Option.bind_some, Option.bind_some, hq, hq', hb]
    exact ⟨rfl, rfl⟩
/-! ### Excesses -/
structure Able (t : Types) (h : Host) : Prop where
  ty : FewT t
  ho : FewH h
  ok : HostOk t h
theorem Able.kind {t : Types} {h : Host} (a : Able t h) {i : Nat} (hi : i < h.fGraph.fNodes.length) : 0 ≤ rd h.fGraph.fNodes (i : Int) ∧ rd h.fGraph.fNodes (i : Int) < (t.fNodes.length : Int) :=
  ⟨(a.ok.graph.kind i hi).1, (node_val (a.ok.node i hi)).1⟩
theorem loop2_succ {A B R : Type} {b : (A → B → Option R) → A → B → Option R} {k : Nat} {s : A} {x : B} : loop2 (k + 1) b s x = b (loop2 k b) s x := rfl
theorem small_out {k : Nat} (hk : 200 ≤ k) {t : Types} (h : Host) (hA : ∀ n ∈ t.fNodes, n.fAttrs.length ≤ 140737488351232) : Out (law15_small k t [h]) (fun b => b = true → FewT t ∧ FewH h) := by
  obtain ⟨b, e, hb⟩ := ref04_Few_out hk hA
  obtain ⟨c, e', hc⟩ := few15_out hk h
  unfold law15_small jn; dsimp only
  rw [e, Option.bind_some]
  cases b with
  | false => exact ⟨_, rfl, fun h => by cases h⟩
  | true =>
    have hx : slices_ContainsFunc_Host k [h] (fun x => law15_small_1 k x) = some (anyN (fun _ => !c) 0 [h].length) := ix_contains [h] _ (fun _ => !c) k (by simp; omega) (by simp) (fun j hj => by
      have : j = 0 := by simp at hj; exact hj
      subst this
      show law15_small_1 k h = _
      unfold law15_small_1
      rw [e', Option.bind_some])
    rw [cond_true, hx, Option.bind_some]
    refine ⟨_, rfl, fun q => ⟨hb rfl, hc ?_⟩⟩
    cases c with
    | true => rfl
    | false => simp [anyN, anyF] at q
end Go.Proofs.YthmdmchmmgmblaaGreat

namespace Go.Proofs.YthmdmchmmgmblaaGreat
open Go Go.Abs

/-! ### Ascending lists -/
structure AscL (l : List Int) (n : Int) : Prop where
  low : ∀ i, i < l.length → 0 ≤ rd l (i : Int)
  high : ∀ i, i < l.length → rd l (i : Int) < n
  step : ∀ i, i + 1 < l.length → rd l (i : Int) < rd l ((i + 1 : Nat) : Int)
theorem AscL.lt {l : List Int} {n : Int} (h : AscL l n) : ∀ {j i : Nat}, i < j → j < l.length → rd l (i : Int) < rd l (j : Int)
  | 0, i, h1, _ => by omega
  | j + 1, i, h1, h2 => by
    have s := h.step j h2
    rcases Nat.lt_succ_iff_lt_or_eq.1 h1 with q | rfl
    · have := AscL.lt h q (by omega); omega
    · exact s
theorem AscL.ge {l : List Int} {n : Int} (h : AscL l n) : ∀ {i : Nat}, i < l.length → (i : Int) ≤ rd l (i : Int)
  | 0, hi => by have := h.low 0 hi; simpa using this
  | i + 1, hi => by
    have := AscL.ge h (i := i) (by omega)
    have := h.step i hi
    omega
theorem AscL.len {l : List Int} {n : Nat} (h : AscL l (n : Int)) : l.length ≤ n := by
  rcases Nat.eq_zero_or_pos l.length with e | e
  · omega
  · have h1 := h.ge (i := l.length - 1) (by omega)
    have h2 := h.high (l.length - 1) (by omega)
    omega
structure Bin (l : List Int) (x : Int) (r : Int × Bool) : Prop where
  low : 0 ≤ r.1
  high : r.1 ≤ (l.length : Int)
  lt : ∀ j : Nat, (j : Int) < r.1 → rd l (j : Int) < x
  ge : ∀ j : Nat, r.1 ≤ (j : Int) → j < l.length → x ≤ rd l (j : Int)
  found : r.2 = (decide (r.1 < (l.length : Int)) && (rd l r.1 == x))
theorem Bin.at {l : List Int} {x n : Int} {r : Int × Bool} (h0 : AscL l n) (h : Bin l x r) {y : Int} (y0 : 0 ≤ y) (y1 : y < (l.length : Int)) (e : rd l y = x) : r.1 = y := by
  have hlow := h.low
  have a1 := h.lt y.toNat
  rw [Int.toNat_of_nonneg y0, e] at a1
  rcases Int.lt_or_le r.1 y with q | q
  · have b1 := h.ge r.1.toNat (by omega) (by omega)
    have b2 := h0.lt (i := r.1.toNat) (j := y.toNat) (by omega) (by omega)
    rw [Int.toNat_of_nonneg hlow] at b1 b2
    rw [Int.toNat_of_nonneg y0] at b2
    omega
  · rcases Int.lt_or_eq_of_le q with q2 | q2
    · have := a1 q2; omega
    · exact q2.symm
theorem Bin.mem {l : List Int} {x n : Int} {r : Int × Bool} (h0 : AscL l n) (h : Bin l x r) : r.2 = decide (x ∈ l) := by
  rw [h.found, Bool.eq_iff_iff, Bool.and_eq_true, decide_eq_true_eq, beq_iff_eq, decide_eq_true_eq]
  constructor
  · rintro ⟨h1, h2⟩
    rw [← h2]; exact rd_mem h.low h1
  · intro hm
    obtain ⟨y, y0, y1, e⟩ := mem_rd.1 hm
    rw [h.at h0 y0 y1 e.symm]
    exact ⟨y1, e.symm⟩
/-! ### The error of a part -/
/-! ### The graph of a part -/
end Go.Proofs.YthmdmchmmgmblaaGreat

namespace Go.Proofs.YthmdmchmmgmblaaGreat
open Go Go.Abs

theorem firstF_z {e : Nat → Int} {z : Int × Int} : ∀ (d i : Nat), (∀ j, i ≤ j → j < i + d → e j = 0) → firstF e z i d = z
  | 0, _, _ => rfl
  | d + 1, i, h => by
    unfold firstF
    rw [h i (Nat.le_refl _) (by omega), bne_self_eq_false, cond_false]
    exact firstF_z d (i + 1) fun j h1 h2 => h j (by omega) (by omega)
theorem host_more {t : Types} {h : Host} (e : (hostV t h).2 = 0) : graphErr h.fGraph = 0 ∧ ∀ j, j < h.fGraph.fEdges.length → edgeV t h.fGraph j = 0 := by
  have ok := host_ok e
  unfold hostV at e
  rw [ok.val, bne_self_eq_false, cond_false] at e
  cases h1 : (graphErr h.fGraph != 0) with
  | true => rw [h1, cond_true] at e; have e' : graphErr h.fGraph = 0 := e; rw [e'] at h1; cases h1
  | false =>
    rw [h1, cond_false, ok.len, bne_self_eq_false, cond_false] at e
    unfold hostN first at e
    rw [firstF_z _ _ fun j h1 h2 => ok.node j (by omega)] at e
    exact ⟨by simpa using h1, fun j hj => firstF_ok _ _ e j (Nat.zero_le _) (by omega)⟩
/-! ### The host of a part is a host -/
end Go.Proofs.YthmdmchmmgmblaaGreat

namespace Go.Proofs.YthmdmchmmgmblaaGreat
open Go Go.Abs

theorem loop3_out {S T R : Type} {b : (S → T → Int → Option R) → S → T → Int → Option R} {P : R → Prop} {I : S → T → Nat → Prop} (n : Nat) (hend : ∀ s u, I s u n → ∀ rec, Out (b rec s u (n : Int)) P)
    (hstep : ∀ s u i, i < n → I s u i → ∀ rec : S → T → Int → Option R, (∀ s' u', I s' u' (i + 1) → Out (rec s' u' ((i : Int) + 1)) P) → Out (b rec s u (i : Int)) P) :
    ∀ (k i : Nat) (s : S) (u : T), i ≤ n → n < k + i → I s u i → Out (loop3 k b s u (i : Int)) P
  | 0, i, s, u, h, hk, _ => by omega
  | k + 1, i, s, u, h, hk, hi => by
    rcases Nat.lt_or_ge i n with hl | hl
    · refine hstep s u i hl hi _ fun s' u' hI => ?_
      have := loop3_out n hend hstep k (i + 1) s' u' hl (by omega) hI
      simpa using this
    · have : i = n := by omega
      subst this
      exact hend s u hi _
/-- What a host needs, told part by part. -/
structure HostP (t : Types) (g : Graph) (vs : List (List Int)) : Prop where
  n8 : g.fNodes.length ≤ 8
  e10 : g.fEdges.length ≤ 10
  len : vs.length = g.fNodes.length
  kind : ∀ j : Nat, j < g.fNodes.length → 0 ≤ rd g.fNodes (j : Int)
  node : ∀ j : Nat, j < g.fNodes.length → nodeV t (rd g.fNodes (j : Int)) (rd vs (j : Int)) = 0
  edge : ∀ x ∈ g.fEdges, (0 ≤ x.fType ∧ x.fType < (t.fEdges.length : Int)) ∧ (0 ≤ x.fFrom ∧ x.fFrom < (g.fNodes.length : Int)) ∧ (0 ≤ x.fTo ∧ x.fTo < (g.fNodes.length : Int)) ∧ fitsB t x.fType (rd g.fNodes x.fFrom) (rd g.fNodes x.fTo) = true
theorem HostP.ok {t : Types} {g : Graph} {vs : List (List Int)} (hv : validS t = 0) (h : HostP t g vs) : hostV t (Host.mk g vs) = (-1, 0) := by
  obtain ⟨w, h12, h20⟩ := valid_wf hv
  have n8 := h.n8; have e10 := h.e10
  have ke : ∀ j : Nat, j < g.fEdges.length → _ := fun j hj => h.edge _ (rd_mem (l := g.fEdges) (x := (j : Int)) (by omega) (by omega))
  have good : GoodG g := ⟨by omega, by omega, fun j hj => ⟨h.kind j hj, by have := (node_val (h.node j hj)).1; omega⟩, fun j hj => ⟨(ke j hj).1.1, (ke j hj).2.1, (ke j hj).2.2.1⟩⟩
  have err : graphErr g = 0 := good_graphErr good fun j hj => by have := (ke j hj).1.2; omega
  unfold hostV
  dsimp only
  rw [hv, bne_self_eq_false, cond_false, err, bne_self_eq_false, cond_false, h.len, bne_self_eq_false, cond_false]
  unfold hostN first
  dsimp only
  rw [firstF_z, firstF_z]
  · intro j _ hj
    have hj' : j < g.fEdges.length := by omega
    obtain ⟨⟨a1, a2⟩, -, -, a3⟩ := ke j hj'
    unfold edgeV
    rw [decide_eq_false (by omega), cond_false, a3, cond_true]
  · intro j _ hj
    exact h.node j (by omega)
theorem HostP.few {t : Types} {g : Graph} {vs : List (List Int)} (ht : FewT t) (hv : validS t = 0) (h : HostP t g vs) (ha : ∀ a, (attrsS t.fNodes t.fNodes.length a).length ≤ 12) : FewH (Host.mk g vs) := by
  have n8 := h.n8; have e10 := h.e10; have hl := h.len
  exact ⟨⟨by show g.fNodes.length ≤ 45; omega, by show g.fEdges.length ≤ 90; omega⟩, by show vs.length ≤ 45; omega, fun j hj => by
    have hj' : j < g.fNodes.length := by have : j < vs.length := hj; omega
    have := (node_val (h.node j hj')).2.1
    have := ha (rd g.fNodes (j : Int))
    show (rd vs (j : Int)).length ≤ 12
    omega⟩
end Go.Proofs.YthmdmchmmgmblaaGreat

namespace Go.Abs.CT

/-- Lists compared place by place. -/
def lx : List Int → List Int → Int
  | [], [] => 0
  | [], _ :: _ => -1
  | _ :: _, [] => 1
  | a :: s, b :: t => if a < b then -1 else if b < a then 1 else lx s t
theorem lx_cons (a b : Int) (s t : List Int) : lx (a :: s) (b :: t) = if a < b then -1 else if b < a then 1 else lx s t := by rw [lx]
theorem lx_nc (b : Int) (t : List Int) : lx [] (b :: t) = -1 := by rw [lx]
theorem lx_cn (b : Int) (t : List Int) : lx (b :: t) [] = 1 := by rw [lx]
theorem lx_nn : lx [] [] = 0 := by rw [lx]
theorem lx_same (a : Int) (s t : List Int) : lx (a :: s) (a :: t) = lx s t := by rw [lx_cons, if_neg (by omega), if_neg (by omega)]
theorem lx_self : ∀ l : List Int, lx l l = 0
  | [] => lx_nn
  | a :: l => by rw [lx_same]; exact lx_self l
theorem lx_eq : ∀ {s t : List Int}, lx s t = 0 → s = t
  | [], [], _ => rfl
  | [], b :: t, h => by rw [lx_nc] at h; omega
  | b :: t, [], h => by rw [lx_cn] at h; omega
  | a :: s, b :: t, h => by
    rw [lx_cons] at h
    by_cases c : a < b
    · rw [if_pos c] at h; omega
    · rw [if_neg c] at h
      by_cases d : b < a
      · rw [if_pos d] at h; omega
      · rw [if_neg d] at h
        rw [show a = b by omega, lx_eq h]
theorem lx_neg : ∀ s t : List Int, lx t s = - lx s t
  | [], [] => by rw [lx_nn]; rfl
  | [], b :: t => by rw [lx_nc, lx_cn]; rfl
  | b :: t, [] => by rw [lx_nc, lx_cn]
  | a :: s, b :: t => by
    rw [lx_cons, lx_cons]
    by_cases c : a < b
    · rw [if_pos c, if_neg (by omega), if_pos c]; rfl
    · by_cases d : b < a
      · rw [if_pos d, if_neg c, if_pos d]
      · rw [if_neg d, if_neg c, if_neg c, if_neg d]; exact lx_neg s t
theorem lx_trans : ∀ {s t u : List Int}, lx s t < 0 → lx t u < 0 → lx s u < 0
  | [], [], _, h, _ => by rw [lx_nn] at h; omega
  | [], _ :: _, [], _, h => by rw [lx_cn] at h; omega
  | [], _ :: _, _ :: _, _, _ => by rw [lx_nc]; omega
  | _ :: _, [], _, h, _ => by rw [lx_cn] at h; omega
  | _ :: _, _ :: _, [], _, h => by rw [lx_cn] at h; omega
  | a :: s, b :: t, c :: u, h1, h2 => by
    rw [lx_cons] at h1 h2 ⊢
    by_cases ab : a < b
    · by_cases bc : b < c
      · rw [if_pos (by omega)]; omega
      · rw [if_neg bc] at h2
        by_cases cb : c < b
        · rw [if_pos cb] at h2; omega
        · rw [if_pos (by omega)]; omega
    · rw [if_neg ab] at h1
      by_cases ba : b < a
      · rw [if_pos ba] at h1; omega
      · rw [if_neg ba] at h1
        by_cases bc : b < c
        · rw [if_pos (by omega)]; omega
        · rw [if_neg bc] at h2
          by_cases cb : c < b
          · rw [if_pos cb] at h2; omega
          · rw [if_neg cb] at h2
            rw [if_neg (by omega), if_neg (by omega)]; exact lx_trans h1 h2
theorem lx_app (p : List Int) (s t : List Int) : lx (p ++ s) (p ++ t) = lx s t := by
  induction p with
  | nil => rfl
  | cons a p ih => rw [List.cons_append, List.cons_append, lx_same]; exact ih
/-- What lies above a part of a list lies above the whole. -/
theorem lx_gt_app : ∀ (c l r : List Int), 0 < lx c (l.take (min c.length l.length)) → 0 < lx (c ++ r) l
  | [], l, r, h => by rw [List.length_nil, Nat.zero_min, List.take_zero, lx_nn] at h; omega
  | a :: c, [], r, _ => by rw [List.cons_append, lx_cn]; omega
  | a :: c, b :: l, r, h => by
    have e : min (a :: c).length (b :: l).length = min c.length l.length + 1 := by simp only [List.length_cons]; omega
    rw [e, List.take_succ_cons, lx_cons] at h
    rw [List.cons_append, lx_cons]
    by_cases ab : a < b
    · rw [if_pos ab] at h; omega
    · rw [if_neg ab] at h ⊢
      by_cases ba : b < a
      · rw [if_pos ba]; omega
      · rw [if_neg ba] at h ⊢; exact lx_gt_app c l r h
theorem lx_app_ne : ∀ {a b : List Int} (r r' : List Int), (∀ x y, a ++ x ≠ b ++ y) → lx (a ++ r) (b ++ r') = lx a b
  | [], b, _, _, h => absurd (by simp) (h b [])
  | a :: s, [], _, _, h => absurd (by simp) (h [] (a :: s))
  | a :: s, b :: t, r, r', h => by
    rw [List.cons_append, List.cons_append, lx_cons, lx_cons]
    by_cases ab : a < b
    · rw [if_pos ab, if_pos ab]
    · rw [if_neg ab, if_neg ab]
      by_cases ba : b < a
      · rw [if_pos ba, if_pos ba]
      · rw [if_neg ba, if_neg ba]
        refine lx_app_ne r r' fun x y e => h x y ?_
        rw [List.cons_append, List.cons_append, show a = b by omega, e]
/-- A host, seen from its codes: nodes, labels, the types between two nodes. -/
structure Hst where
  n : Nat
  lab : Int → List Int
  bet : Int → Int → List Int
def lst (l : List Int) : List Int := (l.length : Int) :: l
theorem lst_dec {a b r r' : List Int} (h : lst a ++ r = lst b ++ r') : a = b ∧ r = r' := by
  unfold lst at h
  rw [List.cons_append, List.cons_append, List.cons.injEq] at h
  exact List.append_inj h.2 (by omega)
variable {H : Hst}
def Mem (H : Hst) (x : Int) : Prop := 0 ≤ x ∧ x < (H.n : Int)
def blk (H : Hst) (p : List Int) (x : Int) : List Int := p.flatMap fun j => lst (H.bet j x) ++ lst (H.bet x j)
def seg (H : Hst) (p : List Int) (x : Int) : List Int := H.lab x ++ (blk H p x ++ lst (H.bet x x))
/-- A label tells where it ends. -/
def Wf (H : Hst) : Prop := ∀ x y r r', Mem H x → Mem H y → H.lab x ++ r = H.lab y ++ r' → H.lab x = H.lab y
theorem blk_dec : ∀ {p q : List Int} {x y : Int} {r r' : List Int}, p.length = q.length → blk H p x ++ r = blk H q y ++ r' → blk H p x = blk H q y ∧ r = r'
  | [], [], _, _, _, _, _, h => ⟨rfl, h⟩
  | [], _ :: _, _, _, _, _, hl, _ => by cases hl
  | _ :: _, [], _, _, _, _, hl, _ => by cases hl
  | j :: p, i :: q, x, y, r, r', hl, h => by
    unfold blk at h ⊢
    rw [List.flatMap_cons, List.flatMap_cons, List.append_assoc, List.append_assoc, List.append_assoc, List.append_assoc] at h
    obtain ⟨e1, h⟩ := lst_dec h
    obtain ⟨e2, h⟩ := lst_dec h
    obtain ⟨e3, h⟩ := blk_dec (p := p) (q := q) (x := x) (y := y) (by simpa using hl) h
    unfold blk at e3
    rw [List.flatMap_cons, List.flatMap_cons, e1, e2, e3]
    exact ⟨rfl, h⟩
theorem seg_dec (wf : Wf H) {p q : List Int} {x y : Int} {r r' : List Int} (hl : p.length = q.length) (hx : Mem H x) (hy : Mem H y) (h : seg H p x ++ r = seg H q y ++ r') : seg H p x = seg H q y ∧ r = r' := by
  unfold seg at h ⊢
  rw [List.append_assoc, List.append_assoc, List.append_assoc, List.append_assoc] at h
  have e1 := wf x y _ _ hx hy h
  rw [e1] at h
  obtain ⟨e2, h⟩ := blk_dec hl (List.append_cancel_left h)
  obtain ⟨e3, h⟩ := lst_dec h
  exact ⟨by rw [e1, e2, e3], h⟩
theorem seg_lx (wf : Wf H) {p q : List Int} {x y : Int} (r r' : List Int) (hl : p.length = q.length) (hx : Mem H x) (hy : Mem H y) (hne : seg H p x ≠ seg H q y) : lx (seg H p x ++ r) (seg H q y ++ r') = lx (seg H p x) (seg H q y) :=
  lx_app_ne r r' fun _ _ e => hne (seg_dec wf hl hx hy e).1
/-- The code of places that follow others. -/
def codeF (H : Hst) : List Int → List Int → List Int
  | _, [] => []
  | p, x :: xs => seg H p x ++ codeF H (p ++ [x]) xs
def code (H : Hst) (o : List Int) : List Int := codeF H [] o
theorem codeF_app (H : Hst) : ∀ (s p t : List Int), codeF H p (s ++ t) = codeF H p s ++ codeF H (p ++ s) t
  | [], p, t => by simp [codeF]
  | x :: s, p, t => by
    rw [List.cons_append, codeF, codeF, codeF_app H s, List.append_assoc, List.append_assoc]; rfl
theorem code_snoc (H : Hst) (o : List Int) (x : Int) : code H (o ++ [x]) = code H o ++ seg H o x := by
  unfold code; rw [codeF_app, List.nil_append]; simp [codeF]
structure Pre (H : Hst) (o : List Int) : Prop where
  nd : o.Nodup
  mem : ∀ x ∈ o, Mem H x
structure Full (H : Hst) (o : List Int) : Prop extends Pre H o where
  len : o.length = H.n
/-- The least code, and of the orders that have it the first one. -/
structure First (H : Hst) (O : List Int) : Prop where
  full : Full H O
  least : ∀ o, Full H o → lx (code H O) (code H o) < 0 ∨ (code H O = code H o ∧ lx O o ≤ 0)
theorem First.uniq {O O' : List Int} (h : First H O) (g : First H O') : O = O' := by
  rcases h.least O' g.full with a | ⟨a1, a2⟩
  · rcases g.least O h.full with b | ⟨b1, b2⟩
    · have := lx_neg (code H O) (code H O'); omega
    · rw [b1, lx_self] at a; omega
  · rcases g.least O h.full with b | ⟨b1, b2⟩
    · rw [a1, lx_self] at b; omega
    · have := lx_neg O O'
      exact lx_eq (by omega)
theorem len_le : ∀ {l m : List Int}, l.Nodup → (∀ x ∈ l, x ∈ m) → l.length ≤ m.length
  | [], _, _, _ => Nat.zero_le _
  | a :: l, m, hn, hs => by
    have ha := hs a (by simp)
    have h1 := len_le (l := l) (m := m.erase a) (List.nodup_cons.1 hn).2 fun x hx => (List.mem_erase_of_ne (by rintro rfl; exact (List.nodup_cons.1 hn).1 hx)).2 (hs x (by simp [hx]))
    have h2 := List.length_erase_of_mem ha
    have h3 : 0 < m.length := List.length_pos_of_mem ha
    simp only [List.length_cons]; omega
def nodes (H : Hst) : List Int := (List.range H.n).map fun i : Nat => (i : Int)
theorem mem_nodes {x : Int} : x ∈ nodes H ↔ Mem H x := by
  unfold nodes Mem
  rw [List.mem_map]
  constructor
  · rintro ⟨i, hi, rfl⟩
    have := List.mem_range.1 hi
    omega
  · intro h
    exact ⟨x.toNat, List.mem_range.2 (by omega), by omega⟩
theorem nodes_len : (nodes H).length = H.n := by unfold nodes; simp
theorem nodes_nodup : (nodes H).Nodup := by
  unfold nodes
  exact List.Pairwise.map _ (fun a b h e => h (by omega)) List.nodup_range
theorem Pre.le {p : List Int} (h : Pre H p) : p.length ≤ H.n := by
  have := len_le h.nd (m := nodes H) (fun x hx => mem_nodes.2 (h.mem x hx))
  rw [nodes_len] at this; exact this
theorem Pre.room {p : List Int} (h : Pre H p) (hl : p.length < H.n) : ∃ x, Mem H x ∧ x ∉ p := by
  apply Classical.byContradiction
  intro hn
  have := len_le (l := nodes H) (m := p) nodes_nodup fun x hx => Classical.byContradiction fun hp => hn ⟨x, mem_nodes.1 hx, hp⟩
  rw [nodes_len] at this; omega
theorem Pre.snoc {p : List Int} (h : Pre H p) {x : Int} (hx : Mem H x) (hp : x ∉ p) : Pre H (p ++ [x]) :=
  ⟨by rw [List.nodup_append]; exact ⟨h.nd, by simp, fun a ha b hb => by rw [List.mem_singleton] at hb; subst hb; rintro rfl; exact hp ha⟩, fun y hy => by
    rcases List.mem_append.1 hy with hy | hy
    · exact h.mem y hy
    · rw [List.mem_singleton] at hy; subst hy; exact hx⟩
theorem Pre.extend : ∀ (m : Nat) {p : List Int}, Pre H p → p.length + m = H.n → ∃ r, Full H (p ++ r)
  | 0, p, h, hl => ⟨[], by rw [List.append_nil]; exact ⟨h, by omega⟩⟩
  | m + 1, p, h, hl => by
    obtain ⟨x, hx, hp⟩ := h.room (by omega)
    obtain ⟨r, hr⟩ := Pre.extend m (h.snoc hx hp) (by rw [List.length_append, List.length_singleton]; omega)
    exact ⟨x :: r, by rw [List.append_assoc] at hr; exact hr⟩
theorem Pre.ext {p : List Int} (h : Pre H p) : ∃ r, Full H (p ++ r) := h.extend (H.n - p.length) (by have := h.le; omega)
/-! ### Twins -/
structure Twin (H : Hst) (a b : Int) : Prop where
  lab : H.lab a = H.lab b
  ab : H.bet a b = H.bet b a
  aa : H.bet a a = H.bet b b
  out : ∀ w, Mem H w → w ≠ a → w ≠ b → H.bet a w = H.bet b w
  inn : ∀ w, Mem H w → w ≠ a → w ≠ b → H.bet w a = H.bet w b
def sw (a b x : Int) : Int := if x = a then b else if x = b then a else x
theorem sw_lab {a b : Int} (t : Twin H a b) (x : Int) : H.lab (sw a b x) = H.lab x := by
  unfold sw
  by_cases c : x = a
  · rw [if_pos c, c, t.lab]
  · rw [if_neg c]
    by_cases d : x = b
    · rw [if_pos d, d, t.lab]
    · rw [if_neg d]
theorem sw_bet {a b : Int} (t : Twin H a b) {x y : Int} (hx : Mem H x) (hy : Mem H y) : H.bet (sw a b x) (sw a b y) = H.bet x y := by
  unfold sw
  by_cases c : x = a
  · rw [if_pos c]
    by_cases d : y = a
    · rw [if_pos d, c, d, t.aa]
    · rw [if_neg d]
      by_cases e : y = b
      · rw [if_pos e, c, e, t.ab]
      · rw [if_neg e, c, t.out y hy d e]
  · rw [if_neg c]
    by_cases c2 : x = b
    · rw [if_pos c2]
      by_cases d : y = a
      · rw [if_pos d, c2, d, t.ab]
      · rw [if_neg d]
        by_cases e : y = b
        · rw [if_pos e, c2, e, t.aa]
        · rw [if_neg e, c2, t.out y hy d e]
    · rw [if_neg c2]
      by_cases d : y = a
      · rw [if_pos d, d, t.inn x hx c c2]
      · rw [if_neg d]
        by_cases e : y = b
        · rw [if_pos e, e, t.inn x hx c c2]
        · rw [if_neg e]
theorem flatMap_eq {α β : Type} {l : List α} {f g : α → List β} (h : ∀ a ∈ l, f a = g a) : l.flatMap f = l.flatMap g := by
  induction l with
  | nil => rfl
  | cons a l ih => rw [List.flatMap_cons, List.flatMap_cons, h a (by simp), ih fun b hb => h b (by simp [hb])]
/-- A code stays as it is under a renaming that keeps labels and what lies between. -/
theorem codeF_map {H K : Hst} (f : Int → Int) (hl : ∀ x, Mem H x → K.lab (f x) = H.lab x) (hb : ∀ x y, Mem H x → Mem H y → K.bet (f x) (f y) = H.bet x y) :
    ∀ (o p : List Int), (∀ x ∈ p, Mem H x) → (∀ x ∈ o, Mem H x) → codeF K (p.map f) (o.map f) = codeF H p o
  | [], _, _, _ => rfl
  | x :: o, p, hp, ho => by
    have hx := ho x (by simp)
    rw [List.map_cons, codeF, codeF]
    have e : seg K (p.map f) (f x) = seg H p x := by
      unfold seg blk
      rw [hl x hx, hb x x hx hx, List.flatMap_map, flatMap_eq fun j hj => by rw [hb j x (hp j hj) hx, hb x j hx (hp j hj)]]
    rw [e]
    have := codeF_map f hl hb o (p ++ [x]) (fun y hy => by rcases List.mem_append.1 hy with hy | hy; exact hp y hy; rw [List.mem_singleton] at hy; subst hy; exact hx) (fun y hy => ho y (by simp [hy]))
    rw [List.map_append] at this
    exact congrArg _ this
end Go.Abs.CT

namespace Go.Abs.CT
variable {H : Hst}

theorem code_map {H K : Hst} (f : Int → Int) (hl : ∀ x, Mem H x → K.lab (f x) = H.lab x) (hb : ∀ x y, Mem H x → Mem H y → K.bet (f x) (f y) = H.bet x y) {o : List Int} (ho : ∀ x ∈ o, Mem H x) : code K (o.map f) = code H o :=
  codeF_map f hl hb o [] (fun x hx => by cases hx) ho
theorem sw_inv (a b x : Int) : sw a b (sw a b x) = x := by
  unfold sw
  by_cases c : x = a
  · rw [if_pos c]
    by_cases d : b = a
    · rw [if_pos d, d, c]
    · rw [if_neg d, if_pos rfl, c]
  · rw [if_neg c]
    by_cases d : x = b
    · rw [if_pos d, if_pos rfl, d]
    · rw [if_neg d, if_neg c, if_neg d]
theorem map_id_of {f : Int → Int} : ∀ {l : List Int}, (∀ x ∈ l, f x = x) → l.map f = l
  | [], _ => rfl
  | a :: l, h => by rw [List.map_cons, h a (by simp), map_id_of fun x hx => h x (by simp [hx])]
theorem First.twin {O p s : List Int} {a b : Int} (h : First H O) (e : O = p ++ b :: s) (ha : Mem H a) (hab : a < b) (t : Twin H a b) : a ∈ p := by
  apply Classical.byContradiction
  intro hp
  have fo := h.full
  have hb : Mem H b := fo.mem b (by rw [e]; simp)
  have msw : ∀ x, Mem H x → Mem H (sw a b x) := fun x hx => by
    unfold sw; split
    · exact hb
    · split
      · exact ha
      · exact hx
  have F' : Full H (O.map (sw a b)) := ⟨⟨List.Pairwise.map _ (fun x y hne e' => hne (by rw [← sw_inv a b x, e', sw_inv])) fo.nd, fun x hx => by
    obtain ⟨y, hy, rfl⟩ := List.mem_map.1 hx
    exact msw y (fo.mem y hy)⟩, by rw [List.length_map]; exact fo.len⟩
  have ce : code H (O.map (sw a b)) = code H O := code_map _ (fun x _ => sw_lab t x) (fun x y hx hy => sw_bet t hx hy) fo.mem
  have bp : b ∉ p := fun hb' => by
    have nd := fo.nd
    rw [e, List.nodup_append] at nd
    exact nd.2.2 b hb' b (by simp) rfl
  have pe : p.map (sw a b) = p := map_id_of fun x hx => by
    unfold sw
    rw [if_neg (by rintro rfl; exact hp hx), if_neg (by rintro rfl; exact bp hx)]
  have oe : O.map (sw a b) = p ++ a :: s.map (sw a b) := by
    rw [e, List.map_append, pe, List.map_cons]
    have : sw a b b = a := by
      unfold sw
      by_cases c : b = a
      · rw [if_pos c, c]
      · rw [if_neg c, if_pos rfl]
    rw [this]
  have lt : lx (O.map (sw a b)) O < 0 := by
    rw [oe]
    conv => lhs; rhs; rw [e]
    rw [lx_app, lx_cons, if_pos hab]; omega
  rcases h.least _ F' with q | ⟨_, q⟩
  · rw [ce, lx_self] at q; omega
  · have := lx_neg O (O.map (sw a b)); omega
/-! ### Level by level -/
structure Lev (H : Hst) (O : List Int) (k : Nat) (L : List (List Int)) : Prop where
  mem : O.take k ∈ L
  each : ∀ o ∈ L, Pre H o ∧ o.length = k ∧ code H o = code H (O.take k)
  sorted : L.Pairwise fun a b => lx a b < 0
theorem Lev.zero {O : List Int} : Lev H O 0 [[]] := ⟨by simp, fun o ho => by rw [List.mem_singleton] at ho; subst ho; exact ⟨⟨List.nodup_nil, fun x hx => by cases hx⟩, rfl, by simp⟩, by simp⟩
theorem Lev.last {O : List Int} (h : First H O) {L : List (List Int)} (v : Lev H O H.n L) : ∃ r, L = O :: r := by
  have fo := h.full
  have ot : O.take H.n = O := by rw [← fo.len, List.take_length]
  have hm := v.mem
  rw [ot] at hm
  match L, v, hm with
  | r :: L, v, hm =>
    rcases List.mem_cons.1 hm with e | hm
    · exact ⟨L, by rw [e]⟩
    · have s := (List.pairwise_cons.1 v.sorted).1 O hm
      obtain ⟨pr, hl, hc⟩ := v.each r (by simp)
      rw [ot] at hc
      rcases h.least r ⟨pr, hl⟩ with q | ⟨_, q⟩
      · rw [hc, lx_self] at q; omega
      · have := lx_neg O r; omega
/-- What stands next after some places. -/
structure Nxt (H : Hst) (nx : List Int → List Int) : Prop where
  mem : ∀ o x, x ∈ nx o → Mem H x ∧ x ∉ o
  all : ∀ o x, Mem H x → x ∉ o → (∀ a, Mem H a → a < x → Twin H a x → a ∈ o) → x ∈ nx o
  up : ∀ o, (nx o).Pairwise (· < ·)
def cands (nx : List Int → List Int) (L : List (List Int)) : List (List Int × Int) := L.flatMap fun o => (nx o).map fun x => (o, x)
def sg (H : Hst) (c : List Int × Int) : List Int := seg H c.1 c.2
def nw (c : List Int × Int) : List Int := c.1 ++ [c.2]
theorem mem_cands {nx : List Int → List Int} {L : List (List Int)} {c : List Int × Int} : c ∈ cands nx L ↔ c.1 ∈ L ∧ c.2 ∈ nx c.1 := by
  unfold cands
  rw [List.mem_flatMap]
  constructor
  · rintro ⟨o, ho, h⟩
    obtain ⟨x, hx, rfl⟩ := List.mem_map.1 h
    exact ⟨ho, hx⟩
  · rintro ⟨h1, h2⟩
    exact ⟨c.1, h1, List.mem_map.2 ⟨c.2, h2, rfl⟩⟩
theorem lx_snoc_lt : ∀ {a b : List Int} (x y : Int), a.length = b.length → lx a b < 0 → lx (a ++ [x]) (b ++ [y]) < 0
  | [], [], _, _, _, h => by rw [lx_nn] at h; omega
  | [], _ :: _, _, _, hl, _ => by cases hl
  | _ :: _, [], _, _, hl, _ => by cases hl
  | a :: s, b :: t, x, y, hl, h => by
    rw [lx_cons] at h
    rw [List.cons_append, List.cons_append, lx_cons]
    by_cases c : a < b
    · rw [if_pos c]; omega
    · rw [if_neg c] at h ⊢
      by_cases d : b < a
      · rw [if_pos d] at h; omega
      · rw [if_neg d] at h ⊢
        exact lx_snoc_lt x y (by simpa using hl) h
theorem cands_sorted {nx : List Int → List Int} (hn : Nxt H nx) {k : Nat} : ∀ {L : List (List Int)}, (∀ o ∈ L, o.length = k) → L.Pairwise (fun a b => lx a b < 0) → (cands nx L).Pairwise fun a b => lx (nw a) (nw b) < 0
  | [], _, _ => List.Pairwise.nil
  | o :: L, hl, hs => by
    have hs := List.pairwise_cons.1 hs
    have e : cands nx (o :: L) = ((nx o).map fun x => (o, x)) ++ cands nx L := by unfold cands; rw [List.flatMap_cons]
    rw [e, List.pairwise_append]
    refine ⟨?_, cands_sorted hn (fun q hq => hl q (by simp [hq])) hs.2, ?_⟩
    · refine List.Pairwise.map _ (fun x y hxy => ?_) (hn.up o)
      show lx (o ++ [x]) (o ++ [y]) < 0
      rw [lx_app, lx_cons, if_pos hxy]; omega
    · intro a ha b hb
      obtain ⟨x, _, rfl⟩ := List.mem_map.1 ha
      have hb1 := (mem_cands.1 hb).1
      exact lx_snoc_lt x b.2 (by rw [hl o (by simp), hl b.1 (by simp [hb1])]) (hs.1 b.1 hb1)
/-- The best of some candidates. -/
structure Best (H : Hst) (C : List (List Int × Int)) (b : List Int) (m : List (List Int)) : Prop where
  eq : m = (C.filter fun c => decide (sg H c = b)).map nw
  le : ∀ c ∈ C, lx b (sg H c) ≤ 0
  ne : C ≠ [] → m ≠ []
theorem Best.nil {b : List Int} : Best H [] b [] := ⟨rfl, fun c hc => (by cases hc), fun h => absurd rfl h⟩
theorem lx_le_trans {s t u : List Int} (h1 : lx s t ≤ 0) (h2 : lx t u ≤ 0) : lx s u ≤ 0 := by
  rcases Int.lt_or_eq_of_le h1 with a | a
  · rcases Int.lt_or_eq_of_le h2 with b | b
    · have := lx_trans a b; omega
    · rw [← lx_eq b]; exact h1
  · rw [lx_eq a]; exact h2
theorem Best.step {C : List (List Int × Int)} {b : List Int} {m : List (List Int)} (h : Best H C b m) (c : List Int × Int) :
    (m ≠ [] → 0 < lx (sg H c) b → Best H (C ++ [c]) b m) ∧
    (m ≠ [] → lx (sg H c) b < 0 → Best H (C ++ [c]) (sg H c) [nw c]) ∧
    ((m = [] ∨ sg H c = b) → Best H (C ++ [c]) (sg H c) (m ++ [nw c])) := by
  refine ⟨fun hm hg => ⟨?_, fun x hx => ?_, fun _ => hm⟩, fun hm hg => ⟨?_, fun x hx => ?_, fun _ => by simp⟩, fun hh => ⟨?_, fun x hx => ?_, fun _ => by simp⟩⟩
  · rw [List.filter_append, List.map_append, ← h.eq]
    have : sg H c ≠ b := fun e => by rw [e, lx_self] at hg; omega
    simp [this]
  · rcases List.mem_append.1 hx with hx | hx
    · exact h.le x hx
    · rw [List.mem_singleton] at hx; subst hx
      have := lx_neg (sg H x) b; omega
  · rw [List.filter_append, List.map_append]
    have e : (C.filter fun x => decide (sg H x = sg H c)) = [] := by
      rw [List.filter_eq_nil_iff]
      intro x hx
      rw [decide_eq_true_eq]
      intro e
      have := h.le x hx
      have n := lx_neg (sg H c) b
      rw [e] at this; omega
    rw [e]; simp
  · rcases List.mem_append.1 hx with hx | hx
    · exact lx_le_trans (by omega) (h.le x hx)
    · rw [List.mem_singleton] at hx; subst hx; rw [lx_self]; omega
  · rcases hh with hm | he
    · have : C = [] := Classical.byContradiction fun hc => h.ne hc hm
      subst this; subst hm; simp
    · rw [List.filter_append, List.map_append, he, ← h.eq]; simp [he]
  · rcases hh with hm | he
    · have : C = [] := Classical.byContradiction fun hc => h.ne hc hm
      subst this
      simp only [List.nil_append, List.mem_singleton] at hx
      subst hx; rw [lx_self]; omega
    · rw [he]
      rcases List.mem_append.1 hx with hx | hx
      · exact h.le x hx
      · rw [List.mem_singleton] at hx; subst hx; rw [he, lx_self]; omega
theorem Lev.step (wf : Wf H) {O : List Int} (h : First H O) {nx : List Int → List Int} (hn : Nxt H nx) {k : Nat} (hk : k < H.n) {L m : List (List Int)} {b : List Int} (v : Lev H O k L) (B : Best H (cands nx L) b m) : Lev H O (k + 1) m := by
  have fo := h.full
  have hlen : k < O.length := by rw [fo.len]; exact hk
  have cut : O = O.take k ++ O[k] :: O.drop (k + 1) := by rw [List.getElem_cons_drop, List.take_append_drop]
  have tk : O.take (k + 1) = O.take k ++ [O[k]] := by rw [List.take_append_getElem]
  have mx : Mem H O[k] := fo.mem _ (List.getElem_mem hlen)
  have nin : O[k] ∉ O.take k := fun hin => by
    have nd := fo.nd
    rw [cut, List.nodup_append] at nd
    exact nd.2.2 _ hin _ List.mem_cons_self rfl
  have hc : (O.take k, O[k]) ∈ cands nx L := mem_cands.2 ⟨v.mem, hn.all _ _ mx nin fun a ha hab t => h.twin cut ha hab t⟩
  have codeO : code H O = code H (O.take k) ++ (seg H (O.take k) O[k] ++ codeF H (O.take k ++ [O[k]]) (O.drop (k + 1))) := by
    conv => lhs; rw [cut]
    unfold code
    rw [codeF_app, List.nil_append, codeF]
  have low : ∀ c ∈ cands nx L, lx (seg H (O.take k) O[k]) (sg H c) ≤ 0 := fun c hcm => by
    obtain ⟨h1, h2⟩ := mem_cands.1 hcm
    obtain ⟨p1, p2, p3⟩ := v.each _ h1
    obtain ⟨q1, q2⟩ := hn.mem _ _ h2
    apply Classical.byContradiction
    intro hgt
    have hgt' : lx (sg H c) (seg H (O.take k) O[k]) < 0 := by have := lx_neg (sg H c) (seg H (O.take k) O[k]); omega
    obtain ⟨r, F⟩ := (p1.snoc q1 q2).ext
    have cc : code H ((c.1 ++ [c.2]) ++ r) = code H (O.take k) ++ (sg H c ++ codeF H (c.1 ++ [c.2]) r) := by
      unfold code
      rw [codeF_app, List.nil_append]
      have := code_snoc H c.1 c.2
      unfold code at this
      rw [this]
      unfold code at p3
      rw [p3, List.append_assoc]; rfl
    have ne : sg H c ≠ seg H (O.take k) O[k] := fun e => by rw [e, lx_self] at hgt'; omega
    have lt : lx (code H ((c.1 ++ [c.2]) ++ r)) (code H O) < 0 := by
      rw [cc, codeO, lx_app]
      have := seg_lx wf (p := c.1) (q := O.take k) (x := c.2) (y := O[k]) (codeF H (c.1 ++ [c.2]) r) (codeF H (O.take k ++ [O[k]]) (O.drop (k + 1))) (by rw [p2, List.length_take]; omega) q1 mx ne
      show lx (seg H c.1 c.2 ++ _) _ < 0
      rw [this]; exact hgt'
    rcases h.least _ F with q | ⟨q, _⟩
    · have := lx_neg (code H O) (code H ((c.1 ++ [c.2]) ++ r)); omega
    · rw [q, lx_self] at lt; omega
  have hb : b = seg H (O.take k) O[k] := by
    have h1 := B.le _ hc
    have h2 : lx (seg H (O.take k) O[k]) b ≤ 0 := by
      have hm := B.ne (fun e => by rw [e] at hc; cases hc)
      have : ((cands nx L).filter fun c => decide (sg H c = b)) ≠ [] := fun e => hm (by rw [B.eq, e]; rfl)
      obtain ⟨c, hcf⟩ := List.exists_mem_of_ne_nil _ this
      obtain ⟨hc1, hc2⟩ := List.mem_filter.1 hcf
      have hc2 := of_decide_eq_true hc2
      rw [← hc2]; exact low c hc1
    have h3 := lx_neg b (seg H (O.take k) O[k])
    have h1 : lx b (seg H (O.take k) O[k]) ≤ 0 := h1
    exact lx_eq (by omega)
  refine ⟨?_, fun o ho => ?_, ?_⟩
  · rw [B.eq, tk]
    exact List.mem_map.2 ⟨(O.take k, O[k]), List.mem_filter.2 ⟨hc, decide_eq_true hb.symm⟩, rfl⟩
  · rw [B.eq] at ho
    obtain ⟨c, hcf, rfl⟩ := List.mem_map.1 ho
    obtain ⟨hc1, hc2⟩ := List.mem_filter.1 hcf
    have hc2 : sg H c = b := of_decide_eq_true hc2
    obtain ⟨h1, h2⟩ := mem_cands.1 hc1
    obtain ⟨p1, p2, p3⟩ := v.each _ h1
    obtain ⟨q1, q2⟩ := hn.mem _ _ h2
    refine ⟨p1.snoc q1 q2, by unfold nw; rw [List.length_append, p2]; rfl, ?_⟩
    unfold nw
    rw [tk, code_snoc, code_snoc, p3]
    show _ ++ sg H c = _
    rw [hc2, hb]
  · rw [B.eq]
    have := cands_sorted hn (fun o ho => (v.each o ho).2.1) v.sorted
    exact List.Pairwise.map _ (fun _ _ h => h) (this.filter _)
/-! ### A search that cuts -/
structure St (H : Hst) (A : List Int → Prop) (best least : List Int) (found : Bool) : Prop where
  no : found = false → ∀ o, Full H o → ¬ A o
  yes : found = true → A best ∧ Full H best ∧ least = code H best ∧ ∀ o, Full H o → A o → lx least (code H o) < 0 ∨ (least = code H o ∧ lx best o ≤ 0)
theorem St.first {best least : List Int} {found : Bool} (hn : ∃ o, Full H o) (s : St H (fun _ => True) best least found) : found = true ∧ First H best := by
  cases found with
  | false => obtain ⟨o, ho⟩ := hn; exact absurd trivial (s.no rfl o ho)
  | true =>
    obtain ⟨_, h2, h3, h4⟩ := s.yes rfl
    exact ⟨rfl, h2, fun o ho => by
      have := h4 o ho trivial
      rw [h3] at this; exact this⟩
theorem St.congr {A B : List Int → Prop} {best least : List Int} {found : Bool} (s : St H A best least found) (h : ∀ o, Full H o → (A o ↔ B o)) : St H B best least found :=
  ⟨fun hf o ho hb => s.no hf o ho ((h o ho).2 hb), fun hf => by
    obtain ⟨h1, h2, h3, h4⟩ := s.yes hf
    exact ⟨(h _ h2).1 h1, h2, h3, fun o ho hb => h4 o ho ((h o ho).2 hb)⟩⟩
/-- A whole order is looked at. -/
theorem St.visit {A : List Int → Prop} {best least : List Int} {found : Bool} (s : St H A best least found) {p : List Int} (F : Full H p) (hlt : ∀ o, Full H o → A o → lx o p < 0) :
    ((found = false ∨ lx (code H p) least < 0) → St H (fun o => A o ∨ o = p) p (code H p) true) ∧
    ((found = true ∧ ¬ lx (code H p) least < 0) → St H (fun o => A o ∨ o = p) best least found) := by
  constructor
  · intro h
    refine ⟨fun e => (by cases e), fun _ => ⟨.inr rfl, F, rfl, fun o ho ha => ?_⟩⟩
    rcases ha with ha | rfl
    · rcases h with hf | hl
      · exact absurd ha (s.no hf o ho)
      · cases found with
        | false => exact absurd ha (s.no rfl o ho)
        | true =>
          obtain ⟨_, _, _, h4⟩ := s.yes rfl
          rcases h4 o ho ha with q | ⟨q, _⟩
          · exact .inl (lx_trans hl q)
          · rw [q] at hl; exact .inl hl
    · exact .inr ⟨rfl, by rw [lx_self]; omega⟩
  · rintro ⟨hf, hl⟩
    subst hf
    obtain ⟨h1, h2, h3, h4⟩ := s.yes rfl
    refine ⟨fun e => (by cases e), fun _ => ⟨.inl h1, h2, h3, fun o ho ha => ?_⟩⟩
    rcases ha with ha | rfl
    · exact h4 o ho ha
    · have n := lx_neg (code H o) least
      rcases Int.lt_or_eq_of_le (show lx least (code H o) ≤ 0 by omega) with q | q
      · exact .inl q
      · have := hlt best h2 h1
        exact .inr ⟨lx_eq q, by omega⟩
/-- What begins with some places is left out where its code lies above. -/
theorem St.cut {A : List Int → Prop} {best least : List Int} (s : St H A best least true) {p : List Int} (hg : 0 < lx (code H p) (least.take (min (code H p).length least.length))) :
    St H (fun o => A o ∨ p <+: o) best least true := by
  obtain ⟨h1, h2, h3, h4⟩ := s.yes rfl
  refine ⟨fun e => (by cases e), fun _ => ⟨.inl h1, h2, h3, fun o ho ha => ?_⟩⟩
  rcases ha with ha | ⟨r, rfl⟩
  · exact h4 o ho ha
  · have e : code H (p ++ r) = code H p ++ codeF H p r := by unfold code; rw [codeF_app, List.nil_append]
    have := lx_gt_app _ _ (codeF H p r) hg
    rw [← e] at this
    have n := lx_neg (code H (p ++ r)) least
    exact .inl (by omega)
end Go.Abs.CT

namespace Go.Proofs.YthmdmchmmgmblaaGreat
open Go Go.Abs Go.Abs.CT
attribute [local irreducible] inR

theorem loop1_succ {A R : Type} (k : Nat) (f : (A → Option R) → A → Option R) (a : A) : loop1 (k + 1) f a = f (loop1 k f) a := rfl
theorem rd_get1' {α : Type} [Inhabited α] {l : List α} {i : Nat} (h : i < l.length) : rd l (i : Int) = l[i] := by simp [rd, List.getD, List.getElem?_eq_getElem h]
theorem sorted_uniq {α : Type} {r : α → α → Prop} (as : ∀ a b, r a b → ¬ r b a) : ∀ {l m : List α}, l.Perm m → l.Pairwise r → m.Pairwise r → l = m
  | [], m, h, _, _ => h.nil_eq
  | a :: l, [], h, _, _ => by have := h.length_eq; simp at this
  | a :: l, b :: m, h, h1, h2 => by
    have h1 := List.pairwise_cons.1 h1; have h2 := List.pairwise_cons.1 h2
    have e : a = b := by
      rcases List.mem_cons.1 (h.subset List.mem_cons_self) with e | hm
      · exact e
      · rcases List.mem_cons.1 (h.symm.subset List.mem_cons_self) with e | hl
        · exact e.symm
        · exact absurd (h1.1 b hl) (as b a (h2.1 a hm))
    subst e
    rw [sorted_uniq as (List.Perm.cons_inv h) h1.2 h2.2]
theorem sorted_uniq_le : ∀ {l m : List Int}, l.Perm m → l.Pairwise (· ≤ ·) → m.Pairwise (· ≤ ·) → l = m
  | [], m, h, _, _ => h.nil_eq
  | a :: l, [], h, _, _ => by have := h.length_eq; simp at this
  | a :: l, b :: m, h, h1, h2 => by
    have h1 := List.pairwise_cons.1 h1; have h2 := List.pairwise_cons.1 h2
    have e : a = b := by
      rcases List.mem_cons.1 (h.subset List.mem_cons_self) with e | hm
      · exact e
      · rcases List.mem_cons.1 (h.symm.subset List.mem_cons_self) with e | hl
        · exact e.symm
        · have := h1.1 b hl; have := h2.1 a hm; omega
    subst e
    rw [sorted_uniq_le (List.Perm.cons_inv h) h1.2 h2.2]
def isE (g : Graph) (i j : Int) (e : Nat) : Bool := (rd g.fEdges (e : Int)).fFrom == i && (rd g.fEdges (e : Int)).fTo == j
def idxL (g : Graph) (i j : Int) (m : Nat) : List Int := ((List.range m).filter (isE g i j)).map fun e : Nat => (e : Int)
def tyE (g : Graph) (e : Int) : Int := (rd g.fEdges e).fType
def tys (g : Graph) (i j : Int) (m : Nat) : List Int := (idxL g i j m).map (tyE g)
def bt (g : Graph) (i j : Int) : List Int := (tys g i j g.fEdges.length).mergeSort fun x y => decide (x ≤ y)
theorem idxL_succ (g : Graph) (i j : Int) (m : Nat) : idxL g i j (m + 1) = idxL g i j m ++ (bif isE g i j m then [(m : Int)] else []) := by
  unfold idxL
  rw [List.range_succ, List.filter_append, List.map_append]
  cases c : isE g i j m <;> simp [c]
theorem idxL_len (g : Graph) (i j : Int) (m : Nat) : (idxL g i j m).length ≤ m := by
  unfold idxL
  rw [List.length_map]
  have := List.length_filter_le (isE g i j) (List.range m)
  rw [List.length_range] at this; exact this
theorem mem_idxL {g : Graph} {i j : Int} {m : Nat} {e : Int} : e ∈ idxL g i j m ↔ 0 ≤ e ∧ e < (m : Int) ∧ (rd g.fEdges e).fFrom = i ∧ (rd g.fEdges e).fTo = j := by
  unfold idxL
  rw [List.mem_map]
  constructor
  · rintro ⟨n, hn, rfl⟩
    obtain ⟨h1, h2⟩ := List.mem_filter.1 hn
    have := List.mem_range.1 h1
    unfold isE at h2
    rw [Bool.and_eq_true, beq_iff_eq, beq_iff_eq] at h2
    exact ⟨by omega, by omega, h2⟩
  · rintro ⟨h0, h1, h2⟩
    refine ⟨e.toNat, List.mem_filter.2 ⟨List.mem_range.2 (by omega), ?_⟩, by omega⟩
    unfold isE
    rw [show ((e.toNat : Nat) : Int) = e by omega, h2.1, h2.2]; simp
theorem tys_succ (g : Graph) (i j : Int) (m : Nat) : tys g i j (m + 1) = tys g i j m ++ (bif isE g i j m then [tyE g (m : Int)] else []) := by
  unfold tys
  rw [idxL_succ, List.map_append]
  cases isE g i j m <;> rfl
theorem tys_len (g : Graph) (i j : Int) (m : Nat) : (tys g i j m).length ≤ m := by unfold tys; rw [List.length_map]; exact idxL_len g i j m
theorem bt_len (g : Graph) (i j : Int) : (bt g i j).length ≤ g.fEdges.length := by unfold bt; rw [List.length_mergeSort]; exact tys_len g i j _
theorem between_eq {k : Nat} (hk : 200 ≤ k) {g : Graph} (he : g.fEdges.length ≤ 90) (i j : Int) : host_between k g i j = some (bt g i j) := by
  have lm : 5000 ≤ lim := by decide
  unfold host_between
  refine (loop2_out (P := fun _ _ r => r = bt g i j) (I := fun s m => s = tys g i j m) g.fEdges.length (fun s hI rec => ?_) (fun s m hm hI rec ih => ?_) k 0 [] (Nat.zero_le _) (by omega) rfl).eq
  · subst hI
    have := tys_len g i j g.fEdges.length
    rw [host_between.b0, decide_eq_false (show ¬ (g.fEdges.length : Int) < (g.fEdges.length : Int) by omega), cond_false]
    unfold slices_Sort_int
    rw [if_pos (by omega), Option.bind_some]; exact ⟨_, rfl, rfl⟩
  · subst hI
    have := tys_len g i j m
    rw [host_between.b0, decide_eq_true (show (m : Int) < (g.fEdges.length : Int) by omega), cond_true, gd ⟨by omega, by omega⟩]
    unfold jn; dsimp only
    have hs := tys_succ g i j m
    have hstep : ∀ b : Bool, isE g i j m = b → Out (bif b then (if (tys g i j m).length + [(rd g.fEdges (m : Int)).fType].length ≤ lim then (if inR ((m : Int) + 1) then rec (tys g i j m ++ [(rd g.fEdges (m : Int)).fType]) ((m : Int) + 1) else none) else none) else (if inR ((m : Int) + 1) then rec (tys g i j m) ((m : Int) + 1) else none)) (fun r => r = bt g i j) := fun b hb => by
      rw [hb] at hs
      cases b with
      | true => rw [cond_true, gd (show _ ≤ lim by rw [List.length_singleton]; omega), gd (inR_nat (n := m) (by omega))]; exact ih _ hs.symm
      | false => rw [cond_false, List.append_nil] at hs; rw [cond_false, gd (inR_nat (n := m) (by omega))]; exact ih _ hs.symm
    cases c : ((rd g.fEdges (m : Int)).fFrom == i) with
    | false =>
      rw [cond_false]
      exact hstep false (by unfold isE; rw [c]; rfl)
    | true =>
      rw [cond_true]
      exact hstep _ (by unfold isE; rw [c, Bool.true_and])
/-! ### The reference -/
def tlt (g : Graph) (a b : Int) : Prop := tyE g a < tyE g b ∨ (tyE g a = tyE g b ∧ a < b)
theorem tlt_as (g : Graph) (a b : Int) (h : tlt g a b) : ¬ tlt g b a := by unfold tlt at *; omega
theorem tlt_ty {g : Graph} {a b : Int} (h : tlt g a b) : tyE g a ≤ tyE g b := by unfold tlt at h; omega
theorem ins_sorted {g : Graph} {s : List Int} {c : Nat} {m : Int} (hs : s.Pairwise (tlt g)) (hc : c ≤ s.length) (hm : ∀ x ∈ s, x < m)
    (hi : ∀ p : Nat, c ≤ p → p < s.length → tyE g m < tyE g (rd s (p : Int))) (lo : c = 0 ∨ tyE g (rd s ((c : Int) - 1)) ≤ tyE g m) : ((s.take c ++ [m]) ++ s.drop c).Pairwise (tlt g) := by
  have sp : (s.take c ++ s.drop c).Pairwise (tlt g) := by rw [List.take_append_drop]; exact hs
  rw [List.pairwise_append] at sp
  obtain ⟨s1, s2, s3⟩ := sp
  have low : ∀ a ∈ s.take c, tyE g a ≤ tyE g m := fun a ha => by
    rcases lo with rfl | lo
    · simp at ha
    · rcases Nat.eq_zero_or_pos c with rfl | hc0
      · simp at ha
      · obtain ⟨p, hp, rfl⟩ := List.mem_iff_getElem.1 ha
        rw [List.length_take] at hp
        have e : (c : Int) - 1 = ((c - 1 : Nat) : Int) := by omega
        rw [e, rd_get1' (show c - 1 < s.length by omega)] at lo
        rw [List.getElem_take]
        rcases Nat.lt_or_ge p (c - 1) with q | q
        · have := List.pairwise_iff_getElem.1 hs p (c - 1) (by omega) (by omega) q
          exact Int.le_trans (tlt_ty this) lo
        · have e2 : p = c - 1 := by omega
          subst e2; exact lo
  have high : ∀ b ∈ s.drop c, tyE g m < tyE g b := fun b hb => by
    obtain ⟨p, hp, rfl⟩ := List.mem_iff_getElem.1 hb
    rw [List.length_drop] at hp
    rw [List.getElem_drop]
    have := hi (c + p) (by omega) (by omega)
    rw [rd_get1' (show c + p < s.length by omega)] at this; exact this
  rw [List.pairwise_append, List.pairwise_append]
  refine ⟨⟨s1, by simp, fun a ha b hb => ?_⟩, s2, fun a ha b hb => ?_⟩
  · rw [List.mem_singleton] at hb; subst hb
    have h1 := low a ha; have h2 := hm a (List.mem_of_mem_take ha)
    unfold tlt; omega
  · rcases List.mem_append.1 ha with ha | ha
    · exact s3 a ha b hb
    · rw [List.mem_singleton] at ha; subst ha
      exact .inl (high b hb)
structure Btw (g : Graph) (i j : Int) (m : Nat) (s : List Int) : Prop where
  perm : s.Perm (idxL g i j m)
  sorted : s.Pairwise (tlt g)
theorem Btw.mem {g : Graph} {i j : Int} {m : Nat} {s : List Int} (b : Btw g i j m s) {e : Int} : e ∈ s ↔ 0 ≤ e ∧ e < (m : Int) ∧ (rd g.fEdges e).fFrom = i ∧ (rd g.fEdges e).fTo = j := by
  rw [b.perm.mem_iff, mem_idxL]
theorem ref_between_out {k : Nat} (hk : 200 ≤ k) {g : Graph} (he : g.fEdges.length ≤ 90) (i j : Int) : Out (ref15_between k g i j) (Btw g i j g.fEdges.length) := by
  have lm : 5000 ≤ lim := by decide
  unfold ref15_between
  refine loop2_out (P := fun _ _ r => Btw g i j g.fEdges.length r) (I := fun s m => Btw g i j m s) g.fEdges.length (fun s hI rec => ?_) (fun s m hm hI rec ih => ?_) k 0 [] (Nat.zero_le _) (by omega) ⟨List.Perm.refl _, List.Pairwise.nil⟩
  · rw [ref15_between.b0, decide_eq_false (show ¬ (g.fEdges.length : Int) < (g.fEdges.length : Int) by omega), cond_false]; exact ⟨_, rfl, hI⟩
  · have gm : (0 : Int) ≤ (m : Int) ∧ (m : Int) < (g.fEdges.length : Int) := ⟨by omega, by omega⟩
    have sl : s.length ≤ m := by rw [hI.perm.length_eq]; exact idxL_len g i j m
    have hsc := idxL_succ g i j m
    rw [ref15_between.b0, decide_eq_true gm.2, cond_true]
    unfold jn; dsimp only
    rw [gd gm]
    have skip : isE g i j m = false → Out (if inR ((m : Int) + 1) then rec s ((m : Int) + 1) else none) (Btw g i j g.fEdges.length) := fun hf => by
      rw [hf, cond_false, List.append_nil] at hsc
      rw [gd (inR_nat (n := m) (by omega))]
      exact ih _ ⟨by rw [hsc]; exact hI.perm, hI.sorted⟩
    cases c1 : ((rd g.fEdges (m : Int)).fFrom != i) with
    | true =>
      rw [cond_true, cond_true]
      refine skip ?_
      unfold isE
      rw [show ((rd g.fEdges (m : Int)).fFrom == i) = false by rw [bne, Bool.not_eq_true'] at c1; exact c1]; rfl
    | false =>
      rw [cond_false, gd gm]
      cases c2 : ((rd g.fEdges (m : Int)).fTo != j) with
      | true =>
        rw [cond_true]
        refine skip ?_
        unfold isE
        rw [show ((rd g.fEdges (m : Int)).fTo == j) = false by rw [bne, Bool.not_eq_true'] at c2; exact c2, Bool.and_false]
      | false =>
        rw [cond_false]
        have hy : isE g i j m = true := by
          unfold isE
          rw [Bool.and_eq_true]
          exact ⟨by simpa using c1, by simpa using c2⟩
        rw [hy, cond_true] at hsc
        have inner : ∀ c : Nat, c ≤ s.length → (∀ p : Nat, c ≤ p → p < s.length → tyE g (m : Int) < tyE g (rd s (p : Int))) → ∀ q : Nat, c < q → Out (loop1 q (ref15_between.b1 g s (m : Int) rec) (c : Int)) (Btw g i j g.fEdges.length) := by
          intro c
          have ins : ∀ c : Nat, c ≤ s.length → (∀ p : Nat, c ≤ p → p < s.length → tyE g (m : Int) < tyE g (rd s (p : Int))) → (c = 0 ∨ tyE g (rd s ((c : Int) - 1)) ≤ tyE g (m : Int)) → Out (if (0 : Int) ≤ (c : Int) ∧ (c : Int) ≤ (s.length : Int) then (if (s.take (c : Int).toNat).length ≤ lim then (if (s.take (c : Int).toNat).length + [(m : Int)].length ≤ lim then (if (0 : Int) ≤ (c : Int) ∧ (c : Int) ≤ (s.length : Int) then (if ((s.take (c : Int).toNat) ++ [(m : Int)]).length + (s.drop (c : Int).toNat).length ≤ lim then (if inR ((m : Int) + 1) then (rec (((s.take (c : Int).toNat) ++ [(m : Int)]) ++ (s.drop (c : Int).toNat)) ((m : Int) + 1)) else none) else none) else none) else none) else none) else none) (Btw g i j g.fEdges.length) := fun c hc hp lo => by
            have gc : (0 : Int) ≤ (c : Int) ∧ (c : Int) ≤ (s.length : Int) := ⟨by omega, by omega⟩
            have tl : (s.take (c : Int).toNat).length ≤ s.length := by rw [List.length_take]; omega
            have dl : (s.drop (c : Int).toNat).length ≤ s.length := by rw [List.length_drop]; omega
            rw [gd gc, gd (show _ ≤ lim by omega), gd (show _ ≤ lim by rw [List.length_singleton]; omega), gd gc, gd (show _ ≤ lim by rw [List.length_append, List.length_singleton]; omega), gd (inR_nat (n := m) (by omega)), Int.toNat_natCast]
            refine ih _ ⟨?_, ins_sorted hI.sorted hc (fun x hx => (hI.mem.1 hx).2.1) hp lo⟩
            rw [hsc]
            have p1 : ((s.take c ++ [(m : Int)]) ++ s.drop c).Perm ((m : Int) :: (s.take c ++ s.drop c)) := by
              rw [List.append_assoc]; exact List.perm_middle
            rw [List.take_append_drop] at p1
            exact p1.trans ((hI.perm.cons _).trans (List.perm_append_singleton _ _).symm)
          induction c with
          | zero =>
            intro hc hp q hq
            obtain ⟨q', rfl⟩ : ∃ z, q = z + 1 := ⟨q - 1, by omega⟩
            rw [loop1_succ, ref15_between.b1]
            unfold jn; dsimp only
            rw [decide_eq_false (by omega), cond_false, cond_false]
            exact ins 0 hc hp (.inl rfl)
          | succ c ihc =>
            intro hc hp q hq
            obtain ⟨q', rfl⟩ : ∃ z, q = z + 1 := ⟨q - 1, by omega⟩
            have e : ((c + 1 : Nat) : Int) - 1 = (c : Int) := by omega
            have gs : (0 : Int) ≤ (c : Int) ∧ (c : Int) < (s.length : Int) := ⟨by omega, by omega⟩
            have hin := hI.mem.1 (rd_mem (l := s) gs.1 gs.2)
            rw [loop1_succ, ref15_between.b1]
            unfold jn; dsimp only
            rw [decide_eq_true (by omega), cond_true, e, gd (show inR (c : Int) by unfold inR; omega), gd gs, gd ⟨hin.1, by omega⟩, gd gm]
            by_cases d : (rd g.fEdges (rd s (c : Int))).fType > (rd g.fEdges (m : Int)).fType
            · rw [decide_eq_true d, cond_true, gd (show inR (c : Int) by unfold inR; omega)]
              refine ihc (by omega) (fun p h1 h2 => ?_) q' (by omega)
              rcases Nat.lt_or_ge c p with z | z
              · exact hp p (by omega) h2
              · obtain rfl : p = c := by omega
                exact d
            · rw [decide_eq_false d, cond_false]
              exact ins (c + 1) hc hp (.inr (by rw [e]; show (rd g.fEdges (rd s (c : Int))).fType ≤ (rd g.fEdges (m : Int)).fType; omega))
        exact inner s.length (Nat.le_refl _) (fun p h1 h2 => by omega) k (by omega)
def be (g : Graph) (i j : Int) : List Int := (ref15_between 1000 g i j).getD []
theorem be_btw {g : Graph} (he : g.fEdges.length ≤ 90) (i j : Int) : Btw g i j g.fEdges.length (be g i j) := by
  obtain ⟨r, e, h⟩ := ref_between_out (k := 1000) (by omega) he i j
  unfold be; rw [e]; exact h
theorem ref_between_eq {k : Nat} (hk : 200 ≤ k) {g : Graph} (he : g.fEdges.length ≤ 90) (i j : Int) : ref15_between k g i j = some (be g i j) := by
  obtain ⟨r, e, h⟩ := ref_between_out hk he i j
  have b := be_btw he i j
  rw [e, sorted_uniq (tlt_as g) (h.perm.trans b.perm.symm) h.sorted b.sorted]
theorem be_types {g : Graph} (he : g.fEdges.length ≤ 90) (i j : Int) : (be g i j).map (tyE g) = bt g i j := by
  have b := be_btw he i j
  refine sorted_uniq_le ?_ ?_ ?_
  · unfold bt
    exact (b.perm.map _).trans (List.mergeSort_perm _ _).symm
  · exact List.Pairwise.map _ (fun _ _ h => tlt_ty h) b.sorted
  · unfold bt
    have := List.pairwise_mergeSort (le := fun x y : Int => decide (x ≤ y)) (fun a b c h1 h2 => by rw [decide_eq_true_eq] at *; omega) (fun a b => by rw [Bool.or_eq_true, decide_eq_true_eq, decide_eq_true_eq]; omega) (tys g i j g.fEdges.length)
    exact this.imp fun h => of_decide_eq_true h
theorem be_len {g : Graph} (he : g.fEdges.length ≤ 90) (i j : Int) : (be g i j).length ≤ g.fEdges.length := by
  rw [(be_btw he i j).perm.length_eq]; exact idxL_len g i j _
end Go.Proofs.YthmdmchmmgmblaaGreat

namespace Go.Proofs.YthmdmchmmgmblaaGreat
open Go Go.Abs Go.Abs.CT
attribute [local irreducible] inR

/-- A host whose code can be asked for. -/
structure Can (t : Types) (h : Host) : Prop where
  few : FewT t
  e0 : (hostV t h).2 = 0
  fh : FewH h
  n8 : h.fGraph.fNodes.length ≤ 8
  e20 : h.fGraph.fEdges.length ≤ 20
def hs (h : Host) : Hst := ⟨h.fGraph.fNodes.length, fun x => rd h.fGraph.fNodes x :: rd h.fValues x, bt h.fGraph⟩
def SmI (x : Int) : Prop := -1000000000 ≤ x ∧ x ≤ 1000000000
variable {t : Types} {h : Host}
theorem Can.ok (c : Can t h) : HostOk t h := host_ok c.e0
theorem Can.node (c : Can t h) {x : Int} (hx : Mem (hs h) x) : nodeV t (rd h.fGraph.fNodes x) (rd h.fValues x) = 0 := by
  have hx' : 0 ≤ x ∧ x < (h.fGraph.fNodes.length : Int) := hx
  have := c.ok.node x.toNat (by omega)
  rw [show ((x.toNat : Nat) : Int) = x by omega] at this; exact this
theorem Can.wf (c : Can t h) : Wf (hs h) := fun x y r r' hx hy e => by
  have e' : rd h.fGraph.fNodes x :: (rd h.fValues x ++ r) = rd h.fGraph.fNodes y :: (rd h.fValues y ++ r') := e
  rw [List.cons.injEq] at e'
  have l1 := (node_val (c.node hx)).2.1; have l2 := (node_val (c.node hy)).2.1
  rw [e'.1] at l1
  obtain ⟨e2, _⟩ := List.append_inj e'.2 (by rw [l1, l2])
  show rd h.fGraph.fNodes x :: rd h.fValues x = rd h.fGraph.fNodes y :: rd h.fValues y
  rw [e'.1, e2]
theorem Can.sm_val (c : Can t h) {x : Int} (hx : Mem (hs h) x) : ∀ y ∈ rd h.fValues x, SmI y := fun y hy => by
  obtain ⟨k1, k2, k3⟩ := node_val (c.node hx)
  obtain ⟨j, hj, rfl⟩ := List.mem_iff_getElem.1 hy
  have ho := k3 j hj
  unfold outB at ho
  rw [Bool.or_eq_false_iff, decide_eq_false_iff_not, decide_eq_false_iff_not, rd_get1' hj] at ho
  have hbd := attrs_bounds c.ok.val k1 _ (rd_mem (l := attrsS t.fNodes t.fNodes.length (rd h.fGraph.fNodes x)) (x := (j : Int)) (by omega) (by rw [← k2]; omega))
  have hb1 := hbd.1; have hb2 := hbd.2
  exact ⟨by omega, by omega⟩
theorem Can.sm_lab (c : Can t h) {x : Int} (hx : Mem (hs h) x) : ∀ y ∈ (hs h).lab x, SmI y := fun y hy => by
  have hy : y ∈ rd h.fGraph.fNodes x :: rd h.fValues x := hy
  rcases List.mem_cons.1 hy with rfl | hy
  · have hx' : 0 ≤ x ∧ x < (h.fGraph.fNodes.length : Int) := hx
    have := c.ok.graph.kind x.toNat (by omega)
    rw [show ((x.toNat : Nat) : Int) = x by omega] at this
    exact ⟨by omega, by omega⟩
  · exact c.sm_val hx y hy
theorem Can.edge (c : Can t h) {e : Int} (e0 : 0 ≤ e) (e1 : e < (h.fGraph.fEdges.length : Int)) : (0 ≤ tyE h.fGraph e ∧ tyE h.fGraph e < (t.fEdges.length : Int)) ∧ Mem (hs h) (rd h.fGraph.fEdges e).fFrom ∧ Mem (hs h) (rd h.fGraph.fEdges e).fTo := by
  have hr := c.ok.graph.right e.toNat (by omega)
  have hv := (host_more c.e0).2 e.toNat (by omega)
  unfold edgeV at hv
  rw [show ((e.toNat : Nat) : Int) = e by omega] at hr hv
  refine ⟨⟨hr.1, ?_⟩, hr.2.1, hr.2.2⟩
  by_cases q : (rd h.fGraph.fEdges e).fType ≥ (t.fEdges.length : Int)
  · rw [decide_eq_true q] at hv; cases hv
  · show (rd h.fGraph.fEdges e).fType < _; omega
theorem Can.sm_bt (c : Can t h) (i j : Int) : ∀ y ∈ bt h.fGraph i j, SmI y := fun y hy => by
  unfold bt at hy
  rw [List.mem_mergeSort] at hy
  obtain ⟨e, he, rfl⟩ := List.mem_map.1 hy
  have hm := mem_idxL.1 he
  have := (c.edge hm.1 hm.2.1).1
  have := c.few.edges
  exact ⟨by omega, by omega⟩
theorem Can.sm_lst (c : Can t h) (i j : Int) : ∀ y ∈ lst (bt h.fGraph i j), SmI y := fun y hy => by
  have hl := bt_len h.fGraph i j; have := c.e20
  unfold lst at hy
  rcases List.mem_cons.1 hy with rfl | hy
  · exact ⟨by omega, by omega⟩
  · exact c.sm_bt i j y hy
theorem Can.sm_seg (c : Can t h) {p : List Int} {x : Int} (hx : Mem (hs h) x) : ∀ y ∈ seg (hs h) p x, SmI y := fun y hy => by
  unfold seg at hy
  rcases List.mem_append.1 hy with hy | hy
  · exact c.sm_lab hx y hy
  · rcases List.mem_append.1 hy with hy | hy
    · unfold blk at hy
      obtain ⟨j, _, hy⟩ := List.mem_flatMap.1 hy
      rcases List.mem_append.1 hy with hy | hy
      · exact c.sm_lst j x y hy
      · exact c.sm_lst x j y hy
    · exact c.sm_lst x x y hy
theorem lst_len (l : List Int) : (lst l).length = l.length + 1 := rfl
theorem Can.blk_len (c : Can t h) (x : Int) : ∀ p : List Int, (blk (hs h) p x).length ≤ 42 * p.length
  | [] => Nat.zero_le _
  | j :: p => by
    have h1 := c.blk_len x p
    have h2 := bt_len h.fGraph j x; have h3 := bt_len h.fGraph x j; have := c.e20
    unfold blk at h1 ⊢
    rw [List.flatMap_cons, List.length_append, List.length_append, lst_len, lst_len, List.length_cons]
    show (bt h.fGraph j x).length + 1 + ((bt h.fGraph x j).length + 1) + _ ≤ _
    omega
theorem Can.lab_len (c : Can t h) {x : Int} (hx : Mem (hs h) x) : (rd h.fValues x).length ≤ 12 := by
  have hx' : 0 ≤ x ∧ x < (h.fGraph.fNodes.length : Int) := hx
  have := c.fh.each x.toNat (by have := c.ok.len; omega)
  rw [show ((x.toNat : Nat) : Int) = x by omega] at this; exact this
theorem Can.seg_len (c : Can t h) {p : List Int} (hp : p.length ≤ 8) {x : Int} (hx : Mem (hs h) x) : (seg (hs h) p x).length ≤ 400 := by
  have h1 := c.blk_len x p; have h2 := c.lab_len hx; have h3 := bt_len h.fGraph x x; have := c.e20
  unfold seg
  rw [List.length_append, List.length_append, lst_len]
  show (rd h.fGraph.fNodes x :: rd h.fValues x).length + (_ + ((bt h.fGraph x x).length + 1)) ≤ _
  rw [List.length_cons]; omega
theorem blk_snoc (H : Hst) (p : List Int) (j x : Int) : blk H (p ++ [j]) x = blk H p x ++ (lst (H.bet j x) ++ lst (H.bet x j)) := by unfold blk; rw [List.flatMap_append]; simp
theorem listed_eq {k : Nat} {l : List Int} (hl : l.length ≤ 1000) : host_listed k l = some (lst l) := by
  have lm : 5000 ≤ lim := by decide
  unfold host_listed
  rw [gd (show _ ≤ lim by rw [List.length_singleton]; omega)]; rfl
theorem Can.gx {h : Host} (hlen : h.fValues.length = h.fGraph.fNodes.length) {x : Int} (hx : Mem (hs h) x) : ((0 : Int) ≤ x ∧ x < (h.fGraph.fNodes.length : Int)) ∧ ((0 : Int) ≤ x ∧ x < (h.fValues.length : Int)) := ⟨hx, by rw [hlen]; exact hx⟩
theorem place_eq {k : Nat} (hk : 200 ≤ k) (c : Can t h) {p : List Int} (hl : p.length ≤ 8) {x : Int} (hx : Mem (hs h) x) : host_place k h (p ++ [x]) = some (seg (hs h) p x) := by
  have lm : 5000 ≤ lim := by decide
  have he := c.e20
  have bl : ∀ i j, (bt h.fGraph i j).length ≤ 20 := fun i j => Nat.le_trans (bt_len _ i j) he
  have e1 : ((p ++ [x]).length : Int) - 1 = (p.length : Int) := by rw [List.length_append, List.length_singleton]; omega
  have e2 : (p ++ [x]).take p.length = p := by simp
  have e3 : rd (p ++ [x]) (p.length : Int) = x := by simp [rd, List.getD]
  have e4 : (p.length : Int) < ((p ++ [x]).length : Int) := by omega
  obtain ⟨g1, g2⟩ := Can.gx c.ok.len hx
  have vl := c.lab_len hx
  unfold host_place
  rw [e1, e3, gd (show inR (p.length : Int) by unfold inR; omega), gd ⟨by omega, e4⟩, gd g1, gd g2, gd (show _ ≤ lim by rw [List.length_singleton]; omega), gd (show inR (p.length : Int) by unfold inR; omega), gd ⟨by omega, by omega⟩]
  refine (loop2_out (P := fun _ _ r => r = seg (hs h) p x) (I := fun s i => s = (hs h).lab x ++ blk (hs h) (p.take i) x) p.length (fun s hI rec => ?_) (fun s i hi hI rec ih => ?_) k 0 _ (Nat.zero_le _) (by omega) (by show _ = _ ++ []; rw [List.append_nil]; rfl)).eq
  · subst hI
    have b1 := c.blk_len x p
    have ll : ((hs h).lab x).length ≤ 13 := by show (_ :: rd h.fValues x).length ≤ 13; rw [List.length_cons]; omega
    have := bl x x
    rw [host_place.b0, e1, Int.toNat_natCast, e2, e3, decide_eq_false (show ¬ (p.length : Int) < (p.length : Int) by omega), cond_false, between_eq hk (by omega), Option.bind_some, listed_eq (by omega), Option.bind_some, List.take_length, gd (show _ ≤ lim by rw [List.length_append, lst_len]; omega)]
    exact ⟨_, rfl, by unfold seg; rw [List.append_assoc]; rfl⟩
  · subst hI
    have b1 := c.blk_len x (p.take i)
    have tl : (p.take i).length ≤ 8 := by rw [List.length_take]; omega
    have ll : ((hs h).lab x).length ≤ 13 := by show (_ :: rd h.fValues x).length ≤ 13; rw [List.length_cons]; omega
    have m1 := bl (rd p (i : Int)) x; have m2 := bl x (rd p (i : Int))
    rw [host_place.b0, e1, Int.toNat_natCast, e2, e3, decide_eq_true (show (i : Int) < (p.length : Int) by omega), cond_true, gd ⟨by omega, by omega⟩, between_eq hk (by omega), Option.bind_some, listed_eq (by omega), Option.bind_some, gd (show _ ≤ lim by rw [List.length_append, lst_len]; omega), between_eq hk (by omega), Option.bind_some, listed_eq (by omega), Option.bind_some, gd (show _ ≤ lim by rw [List.length_append, List.length_append, lst_len, lst_len]; omega), gd (inR_nat (n := i) (by omega))]
    refine ih _ ?_
    rw [take_rdA hi, blk_snoc, List.append_assoc, List.append_assoc]; rfl
theorem ref_listed_eq {k : Nat} (hk : 200 ≤ k) {g : Graph} (he : g.fEdges.length ≤ 90) {i j : Int} : ref15_listed k g (be g i j) = some (lst (bt g i j)) := by
  have lm : 5000 ≤ lim := by decide
  have bl := be_len he i j
  have b := be_btw he i j
  unfold ref15_listed
  refine (loop2_out (P := fun _ _ r => r = lst (bt g i j)) (I := fun s m => s = ((be g i j).length : Int) :: ((be g i j).take m).map (tyE g)) (be g i j).length (fun s hI rec => ?_) (fun s m hm hI rec ih => ?_) k 0 _ (Nat.zero_le _) (by omega) (by simp)).eq
  · subst hI
    rw [ref15_listed.b0, decide_eq_false (show ¬ ((be g i j).length : Int) < ((be g i j).length : Int) by omega), cond_false, List.take_length]
    refine ⟨_, rfl, ?_⟩
    have := be_types he i j
    unfold lst
    rw [← this, List.length_map]
  · subst hI
    have gi : (0 : Int) ≤ (m : Int) ∧ (m : Int) < ((be g i j).length : Int) := ⟨by omega, by omega⟩
    have hin := b.mem.1 (rd_mem (l := be g i j) gi.1 gi.2)
    rw [ref15_listed.b0, decide_eq_true gi.2, cond_true, gd gi, gd ⟨hin.1, hin.2.1⟩, gd (show _ ≤ lim by rw [List.length_cons, List.length_map, List.length_take, List.length_singleton]; omega), gd (inR_nat (n := m) (by omega))]
    refine ih _ ?_
    rw [take_rdA hm, List.map_append, List.cons_append]; rfl
def se (g : Graph) (p : List Int) (x : Int) : List Int := (p.flatMap fun j => be g j x ++ be g x j) ++ be g x x
theorem segment_eq {k : Nat} (hk : 200 ≤ k) (c : Can t h) {p : List Int} (hl : p.length ≤ 8) {x : Int} (hx : Mem (hs h) x) : ref15_segment k h p x = some (seg (hs h) p x, se h.fGraph p x) := by
  have lm : 5000 ≤ lim := by decide
  have he := c.e20
  have bl : ∀ i j, (bt h.fGraph i j).length ≤ 20 := fun i j => Nat.le_trans (bt_len _ i j) he
  have el : ∀ i j, (be h.fGraph i j).length ≤ 20 := fun i j => Nat.le_trans (be_len (by omega) i j) he
  obtain ⟨g1, g2⟩ := Can.gx c.ok.len hx
  have vl := c.lab_len hx
  have ll : ((hs h).lab x).length ≤ 13 := by show (_ :: rd h.fValues x).length ≤ 13; rw [List.length_cons]; omega
  have sl : ∀ q : List Int, (q.flatMap fun j => be h.fGraph j x ++ be h.fGraph x j).length ≤ 40 * q.length := fun q => by
    induction q with
    | nil => exact Nat.zero_le _
    | cons j q ih =>
      have := el j x; have := el x j
      rw [List.flatMap_cons, List.length_append, List.length_append, List.length_cons]; omega
  unfold ref15_segment
  rw [gd g1, gd g2, gd (show _ ≤ lim by rw [List.length_singleton]; omega)]
  refine (loop3_out (P := fun r => r = (seg (hs h) p x, se h.fGraph p x)) (I := fun s u i => s = (hs h).lab x ++ blk (hs h) (p.take i) x ∧ u = (p.take i).flatMap fun j => be h.fGraph j x ++ be h.fGraph x j) p.length (fun s u hI rec => ?_) (fun s u i hi hI rec ih => ?_) k 0 _ _ (Nat.zero_le _) (by omega) ⟨by show _ = _ ++ []; rw [List.append_nil]; rfl, rfl⟩).eq
  · obtain ⟨rfl, rfl⟩ := hI
    have b1 := c.blk_len x p; have b2 := sl p; have := bl x x; have := el x x
    rw [ref15_segment.b0, decide_eq_false (show ¬ (p.length : Int) < (p.length : Int) by omega), cond_false, ref_between_eq hk (by omega), Option.bind_some, ref_listed_eq hk (by omega), Option.bind_some, List.take_length, gd (show _ ≤ lim by rw [List.length_append, lst_len]; omega), gd (show _ ≤ lim by omega)]
    exact ⟨_, rfl, by unfold seg se; rw [List.append_assoc]; rfl⟩
  · obtain ⟨rfl, rfl⟩ := hI
    have b1 := c.blk_len x (p.take i); have b2 := sl (p.take i)
    have tl : (p.take i).length ≤ 8 := by rw [List.length_take]; omega
    have m1 := bl (rd p (i : Int)) x; have m2 := bl x (rd p (i : Int)); have m3 := el (rd p (i : Int)) x; have m4 := el x (rd p (i : Int))
    have gi : (0 : Int) ≤ (i : Int) ∧ (i : Int) < (p.length : Int) := ⟨by omega, by omega⟩
    rw [ref15_segment.b0, decide_eq_true gi.2, cond_true, gd gi, ref_between_eq hk (by omega), Option.bind_some, gd gi, ref_between_eq hk (by omega), Option.bind_some, ref_listed_eq hk (by omega), Option.bind_some, gd (show _ ≤ lim by rw [List.length_append, lst_len]; omega), ref_listed_eq hk (by omega), Option.bind_some, gd (show _ ≤ lim by rw [List.length_append, List.length_append, lst_len, lst_len]; omega), gd (show _ ≤ lim by omega), gd (show _ ≤ lim by rw [List.length_append]; omega), gd (inR_nat (n := i) (by omega))]
    refine ih _ _ ⟨?_, ?_⟩
    · rw [take_rdA hi, blk_snoc, List.append_assoc, List.append_assoc]; rfl
    · rw [take_rdA hi, List.flatMap_append, List.append_assoc]; simp
/-! ### Comparing -/
theorem drop_rd {l : List Int} {i : Nat} (hi : i < l.length) : l.drop i = rd l (i : Int) :: l.drop (i + 1) := by rw [rd_get1' hi, List.getElem_cons_drop]
theorem Compare_eq {k : Nat} {a b : List Int} (hk : a.length < k) (ha : a.length ≤ 1000000) : slices_Compare_int k a b = some (lx a b) := by
  unfold slices_Compare_int
  refine (loop1_out (I := fun i => i ≤ b.length ∧ lx a b = lx (a.drop i) (b.drop i)) (P := fun _ r => r = lx a b) a.length (fun hI rec => ?_) (fun i hi hI rec ih => ?_) k 0 (Nat.zero_le _) (by omega) ⟨Nat.zero_le _, rfl⟩).eq
  · obtain ⟨h1, h2⟩ := hI
    rw [slices_Compare_int.b0, decide_eq_false (show ¬ (a.length : Int) < (a.length : Int) by omega), cond_false]
    rw [List.drop_length] at h2
    rcases Nat.lt_or_ge a.length b.length with q | q
    · rw [decide_eq_true (by omega), cond_true, h2, drop_rd q, lx_nc]; exact ⟨_, rfl, rfl⟩
    · rw [decide_eq_false (by omega), cond_false, h2, List.drop_of_length_le q, lx_nn]; exact ⟨_, rfl, rfl⟩
  · obtain ⟨h1, h2⟩ := hI
    rw [slices_Compare_int.b0, decide_eq_true (show (i : Int) < (a.length : Int) by omega), cond_true, gd ⟨by omega, by omega⟩]
    rcases Nat.lt_or_ge i b.length with q | q
    · rw [decide_eq_false (by omega), cond_false, gd ⟨by omega, by omega⟩]
      rw [drop_rd hi, drop_rd q, lx_cons] at h2
      unfold cmp_Compare_int cmp_isNaN_int
      rw [bne_self_eq_false, bne_self_eq_false, Option.bind_some, Option.bind_some, cond_false, cond_false]
      by_cases c : rd a (i : Int) < rd b (i : Int)
      · rw [if_pos c] at h2
        rw [decide_eq_true c, cond_true, Option.bind_some, h2]; exact ⟨_, rfl, rfl⟩
      · rw [if_neg c] at h2
        rw [decide_eq_false c, cond_false]
        by_cases d : rd b (i : Int) < rd a (i : Int)
        · rw [if_pos d] at h2
          rw [decide_eq_true (show rd a (i : Int) > rd b (i : Int) from d), cond_true, Option.bind_some, h2]; exact ⟨_, rfl, rfl⟩
        · rw [if_neg d] at h2
          rw [decide_eq_false (show ¬ rd a (i : Int) > rd b (i : Int) from d), cond_false, Option.bind_some, bne_self_eq_false, cond_false, gd (inR_nat (n := i) (by omega))]
          exact ih ⟨q, h2⟩
    · rw [decide_eq_true (by omega), cond_true, h2, List.drop_of_length_le q, drop_rd hi, lx_cn]; exact ⟨_, rfl, rfl⟩
def Sgn (r x : Int) : Prop := (r < 0 ↔ x < 0) ∧ (0 < r ↔ 0 < x)
theorem wrap_sm {x : Int} (h : -10000000000 ≤ x ∧ x ≤ 10000000000) : IntKind.i64.wrap x = x := wrap_inR (by unfold inR; omega)
theorem ref_compare_sgn {k : Nat} {a b : List Int} (hk : a.length < k) (ha : a.length ≤ 1000000) (hb : b.length ≤ 1000000) (ra : ∀ x ∈ a, SmI x) (rb : ∀ x ∈ b, SmI x) : Out (ref15_compare k a b) (fun r => Sgn r (lx a b)) := by
  unfold ref15_compare
  refine loop1_out (I := fun i => i ≤ b.length ∧ lx a b = lx (a.drop i) (b.drop i)) (P := fun _ r => Sgn r (lx a b)) a.length (fun hI rec => ?_) (fun i hi hI rec ih => ?_) k 0 (Nat.zero_le _) (by omega) ⟨Nat.zero_le _, rfl⟩
  · obtain ⟨h1, h2⟩ := hI
    rw [ref15_compare.b0]; unfold jn; dsimp only
    rw [decide_eq_false (show ¬ (a.length : Int) < (a.length : Int) by omega), cond_false, cond_false, wrap_sm ⟨by omega, by omega⟩]
    rw [List.drop_length] at h2
    refine ⟨_, rfl, ?_⟩
    rcases Nat.lt_or_ge a.length b.length with q | q
    · rw [h2, drop_rd q, lx_nc]; unfold Sgn; omega
    · rw [h2, List.drop_of_length_le q, lx_nn]; unfold Sgn; omega
  · obtain ⟨h1, h2⟩ := hI
    rw [ref15_compare.b0]; unfold jn; dsimp only
    rw [decide_eq_true (show (i : Int) < (a.length : Int) by omega), cond_true]
    rcases Nat.lt_or_ge i b.length with q | q
    · have sa := ra _ (rd_mem (l := a) (x := (i : Int)) (by omega) (by omega)); have sb := rb _ (rd_mem (l := b) (x := (i : Int)) (by omega) (by omega))
      have s1 := sa.1; have s2 := sa.2; have s3 := sb.1; have s4 := sb.2
      rw [drop_rd hi, drop_rd q, lx_cons] at h2
      rw [decide_eq_true (show (i : Int) < (b.length : Int) by omega), cond_true, gd ⟨by omega, by omega⟩, gd ⟨by omega, by omega⟩]
      by_cases e : rd a (i : Int) = rd b (i : Int)
      · rw [if_neg (by omega), if_neg (by omega)] at h2
        rw [e, bne_self_eq_false, cond_false, gd (inR_nat (n := i) (by omega))]
        exact ih ⟨q, h2⟩
      · rw [show (rd a (i : Int) != rd b (i : Int)) = true by simp [e], cond_true, gd ⟨by omega, by omega⟩, gd ⟨by omega, by omega⟩, wrap_sm ⟨by omega, by omega⟩]
        refine ⟨_, rfl, ?_⟩
        rw [h2]
        by_cases c : rd a (i : Int) < rd b (i : Int)
        · rw [if_pos c]; unfold Sgn; omega
        · rw [if_neg c, if_pos (by omega)]; unfold Sgn; omega
    · rw [decide_eq_false (show ¬ (i : Int) < (b.length : Int) by omega), cond_false, wrap_sm ⟨by omega, by omega⟩]
      refine ⟨_, rfl, ?_⟩
      rw [h2, List.drop_of_length_le q, drop_rd hi, lx_cn]; unfold Sgn; omega
end Go.Proofs.YthmdmchmmgmblaaGreat
