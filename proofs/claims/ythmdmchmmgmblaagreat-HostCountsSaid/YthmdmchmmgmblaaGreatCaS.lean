/- The pure laws: what the pure functions answer; the law of the row about them. -/
import Derived.Test.YthmdmchmmgmblaaGreatCaD
namespace Go.Proofs.YthmdmchmmgmblaaGreat
open Go Go.Abs

/-- It answers, and what it answers is so. -/
def Out {R : Type} (x : Option R) (P : R → Prop) : Prop := ∃ r, x = some r ∧ P r
theorem Out.some {R : Type} {r : R} {P : R → Prop} (h : P r) : Out (some r) P := ⟨r, rfl, h⟩
theorem Out.bind {R S : Type} {x : Option R} {f : R → Option S} {P : R → Prop} {Q : S → Prop} (h : Out x P) (g : ∀ r, P r → Out (f r) Q) : Out (x.bind f) Q := by
  obtain ⟨r, rfl, hr⟩ := h; exact g r hr
theorem Out.eq {R : Type} {x : Option R} {r : R} (h : Out x (· = r)) : x = Option.some r := by obtain ⟨t, rfl, rfl⟩ := h; rfl
theorem Out.mono {R : Type} {x : Option R} {P Q : R → Prop} (h : Out x P) (g : ∀ r, P r → Q r) : Out x Q := by obtain ⟨r, e, hr⟩ := h; exact ⟨r, e, g r hr⟩
theorem gd {R : Type} {p : Prop} [Decidable p] (h : p) (x : Option R) : (if p then x else none) = x := if_pos h

theorem loop1_out {R : Type} {b : (Int → Option R) → Int → Option R} {I : Nat → Prop} {P : Nat → R → Prop} (n : Nat)
    (hend : I n → ∀ rec, Out (b rec (n : Int)) (P n))
    (hstep : ∀ i, i < n → I i → ∀ rec : Int → Option R, (I (i + 1) → Out (rec ((i : Int) + 1)) (P (i + 1))) → Out (b rec (i : Int)) (P i)) :
    ∀ k i : Nat, i ≤ n → n < k + i → I i → Out (loop1 k b (i : Int)) (P i)
  | 0, i, h, hk, _ => by omega
  | k + 1, i, h, hk, hi => by
    rcases Nat.lt_or_ge i n with hl | hl
    · refine hstep i hl hi _ fun hI => ?_
      have := loop1_out n hend hstep k (i + 1) hl (by omega) hI
      simpa using this
    · have : i = n := by omega
      subst this
      exact hend hi _

theorem loop1_eq {R : Type} {b : (Int → Option R) → Int → Option R} (F : Nat → R) (n : Nat)
    (hend : ∀ rec, b rec (n : Int) = some (F n))
    (hstep : ∀ i, i < n → ∀ rec : Int → Option R, rec ((i : Int) + 1) = some (F (i + 1)) → b rec (i : Int) = some (F i))
    {k i : Nat} (hi : i ≤ n) (hk : n < k + i) : loop1 k b (i : Int) = some (F i) :=
  (loop1_out (I := fun _ => True) (P := fun i r => r = F i) n (fun _ rec => ⟨_, hend rec, rfl⟩)
    (fun i hi _ rec h => ⟨_, hstep i hi rec (h trivial).eq, rfl⟩) k i hi hk trivial).eq

/-- Loops with one more thing that goes along ahead of the number. -/
theorem loop2_out {S R : Type} {b : (S → Int → Option R) → S → Int → Option R} {P : S → Nat → R → Prop} {I : S → Nat → Prop} (n : Nat)
    (hend : ∀ s, I s n → ∀ rec, Out (b rec s (n : Int)) (P s n))
    (hstep : ∀ s i, i < n → I s i → ∀ rec : S → Int → Option R, (∀ s', I s' (i + 1) → Out (rec s' ((i : Int) + 1)) (P s' (i + 1))) → Out (b rec s (i : Int)) (P s i)) :
    ∀ (k i : Nat) (s : S), i ≤ n → n < k + i → I s i → Out (loop2 k b s (i : Int)) (P s i)
  | 0, i, s, h, hk, _ => by omega
  | k + 1, i, s, h, hk, hi => by
    rcases Nat.lt_or_ge i n with hl | hl
    · refine hstep s i hl hi _ fun s' hI => ?_
      have := loop2_out n hend hstep k (i + 1) s' hl (by omega) hI
      simpa using this
    · have : i = n := by omega
      subst this
      exact hend s hi _

/-! ### Scans -/
def scanF (e : Nat → Int) : Nat → Nat → Int
  | _, 0 => 0
  | i, d + 1 => bif e i != 0 then e i else scanF e (i + 1) d
def scan (e : Nat → Int) (i n : Nat) : Int := scanF e i (n - i)
theorem scan_end {e : Nat → Int} {n : Nat} : scan e n n = 0 := by simp [scan, scanF]
theorem scan_step {e : Nat → Int} {i n : Nat} (h : i < n) : scan e i n = bif e i != 0 then e i else scan e (i + 1) n := by
  have : n - i = (n - (i + 1)) + 1 := by omega
  unfold scan; rw [this]; rfl
theorem scan_zero {e : Nat → Int} {n : Nat} : ∀ {i : Nat}, scan e i n = 0 → ∀ j, i ≤ j → j < n → e j = 0 := by
  intro i
  induction hd : n - i generalizing i with
  | zero => intro _ j h1 h2; omega
  | succ d ih =>
    intro h j h1 h2
    rw [scan_step (by omega)] at h
    by_cases he : e i = 0
    · rcases Nat.eq_or_lt_of_le h1 with rfl | h3
      · exact he
      · simp [he] at h
        exact ih (i := i + 1) (by omega) h j h3 h2
    · exfalso
      have : (e i != 0) = true := by simp [he]
      rw [this] at h; exact he h

def anyF (p : Nat → Bool) : Nat → Nat → Bool
  | _, 0 => false
  | i, d + 1 => p i || anyF p (i + 1) d
def anyN (p : Nat → Bool) (i n : Nat) : Bool := anyF p i (n - i)
theorem anyN_end {p : Nat → Bool} {n : Nat} : anyN p n n = false := by simp [anyN, anyF]
theorem anyN_step {p : Nat → Bool} {i n : Nat} (h : i < n) : anyN p i n = (p i || anyN p (i + 1) n) := by
  have : n - i = (n - (i + 1)) + 1 := by omega
  unfold anyN; rw [this]; rfl
theorem anyN_iff {p : Nat → Bool} {n : Nat} : ∀ {i : Nat}, anyN p i n = true ↔ ∃ j, i ≤ j ∧ j < n ∧ p j = true := by
  intro i
  induction hd : n - i generalizing i with
  | zero =>
    have : anyN p i n = false := by simp [anyN, anyF, hd]
    rw [this]; constructor
    · intro h; cases h
    · rintro ⟨j, h1, h2, _⟩; omega
  | succ d ih =>
    rw [anyN_step (by omega), Bool.or_eq_true, ih (i := i + 1) (by omega)]
    constructor
    · rintro (h | ⟨j, h1, h2, h3⟩)
      · exact ⟨i, Nat.le_refl _, by omega, h⟩
      · exact ⟨j, by omega, h2, h3⟩
    · rintro ⟨j, h1, h2, h3⟩
      rcases Nat.eq_or_lt_of_le h1 with rfl | h4
      · exact .inl h3
      · exact .inr ⟨j, h4, h2, h3⟩
theorem anyN_congr {p q : Nat → Bool} {i n : Nat} (h : ∀ j, i ≤ j → j < n → p j = q j) : anyN p i n = anyN q i n := by
  rw [Bool.eq_iff_iff, anyN_iff, anyN_iff]
  exact ⟨fun ⟨j, a, b, c⟩ => ⟨j, a, b, h j a b ▸ c⟩, fun ⟨j, a, b, c⟩ => ⟨j, a, b, (h j a b).symm ▸ c⟩⟩

theorem inR_of {x : Int} (h : -9223372036854775808 ≤ x ∧ x ≤ 9223372036854775807) : inR x := h
theorem inR_nat {n : Nat} (h : n ≤ 1000000) : inR ((n : Int) + 1) := by unfold inR; omega
theorem rd_take {α : Type} [Inhabited α] {l : List α} {i j : Nat} (h : j < i) : rd (l.take i) (j : Int) = rd l (j : Int) := by
  simp [rd, List.getD, List.getElem?_take, h]
theorem rd_mem {α : Type} [Inhabited α] {l : List α} {x : Int} (h0 : 0 ≤ x) (h : x < (l.length : Int)) : rd l x ∈ l := by
  have : x.toNat < l.length := by omega
  simp [rd, List.getD, List.getElem?_eq_getElem this]

/-! ### Is there one? -/
def ixb {α : Type} [Inhabited α] (a0 : List α) (a1 : α → Option Bool) (rec0 : Int → Option Int) (x8 : Int) : Option Int :=
  (bif (decide (x8 < (a0.length : Int))) then (if (0 : Int) ≤ x8 ∧ x8 < (a0.length : Int) then ((a1 (rd a0 x8)).bind fun t32 => (bif t32 then (some x8) else (if inR (x8 + 1) then (rec0 (x8 + 1)) else none))) else none) else (some (-1)))
theorem ix_contains {α : Type} [Inhabited α] (l : List α) (f : α → Option Bool) (p : Nat → Bool) (k : Nat) (hk : l.length < k) (hl : l.length ≤ 1000000)
    (hf : ∀ j, j < l.length → f (rd l (j : Int)) = some (p j)) :
    ((loop1 k (ixb l f) 0).bind fun t => some (decide (t ≥ 0))) = some (anyN p 0 l.length) := by
  obtain ⟨r, e, h⟩ := loop1_out (I := fun _ => True) (P := fun i r => decide (r ≥ 0) = anyN p i l.length) (b := ixb l f) l.length
    (fun _ rec => ⟨-1, by simp [ixb], by rw [anyN_end]; decide⟩)
    (fun i hi _ rec ih => by
      rw [anyN_step hi]
      simp only [ixb, hf i hi, Option.bind_some]
      rw [gd (inR_nat (by omega)), gd (by omega)]
      have : decide ((i : Int) < (l.length : Int)) = true := by simp [hi]
      rw [this, cond_true]
      cases hp : p i with
      | true => exact ⟨_, rfl, by simp⟩
      | false => simpa using ih trivial)
    k 0 (Nat.zero_le _) (by omega) trivial
  have e' : loop1 k (ixb l f) 0 = some r := e
  rw [e', Option.bind_some, h]
theorem ContainsFunc_int {k : Nat} (l : List Int) (f : Int → Option Bool) (p : Nat → Bool) (hk : l.length < k) (hl : l.length ≤ 1000000)
    (hf : ∀ j, j < l.length → f (rd l (j : Int)) = some (p j)) : slices_ContainsFunc_int k l f = some (anyN p 0 l.length) := ix_contains l f p k hk hl hf
theorem ContainsFunc_Edge {k : Nat} (l : List Edge) (f : Edge → Option Bool) (p : Nat → Bool) (hk : l.length < k) (hl : l.length ≤ 1000000)
    (hf : ∀ j, j < l.length → f (rd l (j : Int)) = some (p j)) : slices_ContainsFunc_Edge k l f = some (anyN p 0 l.length) := ix_contains l f p k hk hl hf
theorem ContainsFunc_NodeType {k : Nat} (l : List NodeType) (f : NodeType → Option Bool) (p : Nat → Bool) (hk : l.length < k) (hl : l.length ≤ 1000000)
    (hf : ∀ j, j < l.length → f (rd l (j : Int)) = some (p j)) : slices_ContainsFunc_NodeType k l f = some (anyN p 0 l.length) := ix_contains l f p k hk hl hf
theorem ContainsFunc_Attr {k : Nat} (l : List Attr) (f : Attr → Option Bool) (p : Nat → Bool) (hk : l.length < k) (hl : l.length ≤ 1000000)
    (hf : ∀ j, j < l.length → f (rd l (j : Int)) = some (p j)) : slices_ContainsFunc_Attr k l f = some (anyN p 0 l.length) := ix_contains l f p k hk hl hf
theorem ContainsFunc_EdgeType {k : Nat} (l : List EdgeType) (f : EdgeType → Option Bool) (p : Nat → Bool) (hk : l.length < k) (hl : l.length ≤ 1000000)
    (hf : ∀ j, j < l.length → f (rd l (j : Int)) = some (p j)) : slices_ContainsFunc_EdgeType k l f = some (anyN p 0 l.length) := ix_contains l f p k hk hl hf
theorem Contains_string {k : Nat} (l : List Str) (a : Str) (hk : l.length < k) (hl : l.length ≤ 1000000) :
    slices_Contains_string k l a = some (anyN (fun j => a == rd l (j : Int)) 0 l.length) := ix_contains l (fun x => some (a == x)) _ k hk hl (fun _ _ => rfl)
theorem Contains_int {k : Nat} (l : List Int) (a : Int) (hk : l.length < k) (hl : l.length ≤ 1000000) :
    slices_Contains_int k l a = some (anyN (fun j => a == rd l (j : Int)) 0 l.length) := ix_contains l (fun x => some (a == x)) _ k hk hl (fun _ _ => rfl)
end Go.Proofs.YthmdmchmmgmblaaGreat

namespace Go.Proofs.YthmdmchmmgmblaaGreat
open Go Go.Abs

def letterB (c : Int) : Bool := (decide (c ≥ 97) && decide (c ≤ 122)) || (decide (c ≥ 65) && decide (c ≤ 90))
def digitB (c : Int) : Bool := decide (c ≥ 48) && decide (c ≤ 57)
def partB (c : Int) : Bool := (letterB c || digitB c) || c == 95
theorem token_letter_eq {k : Nat} (c : Int) : token_letter k c = some (letterB c) := by
  simp only [token_letter, jn, letterB]
  cases decide (c ≥ 97) <;> cases decide (c ≤ 122) <;> cases decide (c ≥ 65) <;> rfl
theorem ref01_letter_eq {k : Nat} (c : Int) : ref01_letter k c = some (letterB c) := by
  simp only [ref01_letter, jn, letterB]
  cases decide (c ≥ 97) <;> cases decide (c ≤ 122) <;> cases decide (c ≥ 65) <;> rfl
theorem token_digit_eq {k : Nat} (c : Int) : token_digit k c = some (digitB c) := by
  simp only [token_digit, jn, digitB]
  cases decide (c ≥ 48) <;> rfl
theorem ref01_digit_eq {k : Nat} (c : Int) : ref01_digit k c = some (digitB c) := by
  simp only [ref01_digit, jn, digitB]
  cases decide (c ≥ 48) <;> rfl
theorem token_part_eq {k : Nat} (c : Int) : token_part k c = some (partB c) := by
  simp only [token_part, jn, partB, token_letter_eq, token_digit_eq, Option.bind_some]
  cases letterB c <;> cases digitB c <;> rfl
theorem letter_not_digit {c : Int} (h : letterB c = true) : digitB c = false := by
  simp only [letterB, digitB, Bool.or_eq_true, Bool.and_eq_true, decide_eq_true_eq, Bool.and_eq_false_iff, decide_eq_false_iff_not] at *
  omega

def stopF (p : Nat → Bool) : Nat → Nat → Nat
  | i, 0 => i
  | i, d + 1 => bif p i then stopF p (i + 1) d else i
def stopN (p : Nat → Bool) (i n : Nat) : Nat := stopF p i (n - i)
theorem stopN_end {p : Nat → Bool} {n : Nat} : stopN p n n = n := by simp [stopN, stopF]
theorem stopN_step {p : Nat → Bool} {i n : Nat} (h : i < n) : stopN p i n = bif p i then stopN p (i + 1) n else i := by
  have : n - i = (n - (i + 1)) + 1 := by omega
  unfold stopN; rw [this]; rfl
theorem stopF_le {p : Nat → Bool} : ∀ {d i : Nat}, stopF p i d ≤ i + d
  | 0, i => by simp [stopF]
  | d + 1, i => by
    have := stopF_le (p := p) (d := d) (i := i + 1)
    unfold stopF; cases p i <;> simp <;> omega
theorem stopN_le {p : Nat → Bool} {n : Nat} : stopN p 0 n ≤ n := by have := stopF_le (p := p) (d := n) (i := 0); simpa [stopN] using this
theorem stopN_congr {p q : Nat → Bool} {n : Nat} : ∀ {i : Nat}, (∀ j, p j = q j) → stopN p i n = stopN q i n := by
  intro i h; have : p = q := funext h; rw [this]

theorem token_run_eq {k : Nat} (s : Str) (f : Int → Option Bool) (p : Nat → Bool) (hk : s.length < k) (hs : s.length ≤ 1000000)
    (hf : ∀ j, j < s.length → f (bt s (j : Int)) = some (p j)) : token_run k s f = some (stopN p 0 s.length : Int) := by
  refine loop1_eq (fun i => (stopN p i s.length : Int)) s.length (fun rec => ?_) (fun i hi rec ih => ?_) (Nat.zero_le _) (by omega)
  · simp [token_run.b0, jn, stopN_end]
  · rw [stopN_step hi]
    simp only [token_run.b0, jn, hf i hi, Option.bind_some]
    have : decide ((i : Int) < (s.length : Int)) = true := by simp [hi]
    rw [this, cond_true, gd (by omega), gd (inR_nat (by omega))]
    cases p i <;> simp [ih]
theorem ref01_run_eq {k : Nat} (s : Str) (dg : Bool) (hk : s.length < k) (hs : s.length ≤ 1000000) :
    ref01_run k s 0 dg = some (stopN (fun j => digitB (bt s (j : Int)) || (!dg && (letterB (bt s (j : Int)) || (bt s (j : Int)) == 95))) 0 s.length : Int) := by
  refine loop1_eq (fun i => (stopN _ i s.length : Int)) s.length (fun rec => ?_) (fun i hi rec ih => ?_) (Nat.zero_le _) (by omega)
  · simp only [ref01_run.b0, jn, stopN_end, Int.zero_add]
    rw [gd (inR_of (by omega))]
    simp
  · rw [stopN_step hi]
    have : decide ((i : Int) < (s.length : Int)) = true := by simp [hi]
    have h1 : inR (i : Int) := inR_of (by omega)
    have h2 : (0 : Int) ≤ (i : Int) ∧ (i : Int) < (s.length : Int) := by omega
    simp only [ref01_run.b0, jn, Int.zero_add, gd h1, gd h2, this, cond_true, ref01_digit_eq, ref01_letter_eq, Option.bind_some, gd (inR_nat (n := i) (by omega)), ih]
    cases digitB (bt s (i : Int)) <;> cases dg <;> cases letterB (bt s (i : Int)) <;> cases (bt s (i : Int) == 95) <;> rfl

def isNameB (s : Str) : Bool := (s != []) && (letterB (bt s 0) && (decide (stopN (fun j => partB (bt s (j : Int))) 0 s.length ≤ 20) && stopN (fun j => partB (bt s (j : Int))) 0 s.length == s.length))

theorem token_quoted_out {k : Nat} (s : Str) (h0 : 1 ≤ s.length) (hk : s.length < k) (hs : s.length ≤ 1000000) : Out (token_quoted k s) (fun _ => True) := by
  unfold token_quoted
  rw [gd (by omega)]
  have hd : (s.drop (1 : Int).toNat).length = s.length - 1 := by simp
  refine Out.bind (P := fun r => 0 ≤ r ∧ r ≤ (s.length : Int) - 1) ⟨_, token_run_eq (p := fun j => (decide (bt (s.drop (1 : Int).toNat) (j : Int) ≥ 32) && (decide (bt (s.drop (1 : Int).toNat) (j : Int) ≤ 126) && (bt (s.drop (1 : Int).toNat) (j : Int)) != 34))) _ _ (by omega) (by omega) (fun j _ => ?_), ?_⟩ fun r hr => ?_
  · simp only [token_quoted_1, jn]
    cases decide (bt (s.drop (1 : Int).toNat) (j : Int) ≥ 32) <;> cases decide (bt (s.drop (1 : Int).toNat) (j : Int) ≤ 126) <;> rfl
  · refine ⟨by omega, ?_⟩
    have h := stopN_le (p := fun j => (decide (bt (s.drop (1 : Int).toNat) (j : Int) ≥ 32) && (decide (bt (s.drop (1 : Int).toNat) (j : Int) ≤ 126) && (bt (s.drop (1 : Int).toNat) (j : Int)) != 34))) (n := (s.drop (1 : Int).toNat).length)
    rw [hd] at h ⊢
    omega
  · simp only [jn]
    rw [gd (inR_of (by omega))]
    cases hb : (1 + r == (s.length : Int)) with
    | true => exact ⟨_, rfl, trivial⟩
    | false =>
      have : 1 + r ≠ (s.length : Int) := by simpa using hb
      rw [cond_false, gd (inR_of (by omega)), gd (by omega)]
      cases (bt s (1 + r) != 34) with
      | true => exact ⟨_, rfl, trivial⟩
      | false =>
        rw [cond_false]
        cases decide (r > 60) with
        | true => exact ⟨_, rfl, trivial⟩
        | false => rw [cond_false, gd (inR_of (by omega))]; exact ⟨_, rfl, trivial⟩
theorem token_pair_out {k : Nat} (s : Str) (hk : 10 ≤ k) : Out (token_pair k s) (fun _ => True) := by
  unfold token_pair; simp only [jn]
  cases hb : decide ((s.length : Int) ≥ 2) with
  | false => exact ⟨_, rfl, trivial⟩
  | true =>
    simp at hb
    rw [cond_true, gd (by omega), Contains_string _ _ (by simp; omega) (by simp)]
    exact ⟨_, rfl, trivial⟩
theorem token_next_out {k : Nat} (s : Str) (h0 : 1 ≤ s.length) (hk : s.length < k) (hk' : 10 ≤ k) (hs : s.length ≤ 1000000) (hl : letterB (bt s 0) = false) :
    Out (token_next k s) (fun r => r.2.2 ≠ 0 ∨ r.1 ≠ 1) := by
  unfold token_next
  rw [gd (by omega), token_letter_eq, Option.bind_some, hl, cond_false, token_digit_eq, Option.bind_some]
  cases digitB (bt s 0) with
  | true =>
    rw [cond_true, token_run_eq (p := fun j => digitB (bt s (j : Int))) _ _ hk hs (fun j _ => token_digit_eq _), Option.bind_some]
    cases decide ((stopN (fun j => digitB (bt s (j : Int))) 0 s.length : Int) > 9)
    · exact ⟨_, rfl, .inr (by simp)⟩
    · exact ⟨_, rfl, .inl (by simp)⟩
  | false =>
    rw [cond_false]
    cases (bt s 0 == 34) with
    | true => rw [cond_true]; exact Out.bind (token_quoted_out s h0 hk hs) fun r _ => ⟨_, rfl, .inr (by simp)⟩
    | false =>
      rw [cond_false]
      refine Out.bind (token_pair_out s hk') fun r _ => ?_
      cases r with
      | true => exact ⟨_, rfl, .inr (by simp)⟩
      | false =>
        simp only [cond_false, strings_IndexByte, stringslite_IndexByte, Option.bind_some]
        generalize decide (_ ≥ (0 : Int)) = b
        cases b
        · exact ⟨_, rfl, .inl (by decide)⟩
        · exact ⟨_, rfl, .inr (by decide)⟩

theorem token_IsName_eq {k : Nat} (hk : 200 ≤ k) (s : Str) (hs : s.length ≤ 100) : token_IsName k s = some (isNameB s) := by
  unfold token_IsName token_whole jn; dsimp only
  rw [show ((1 : Int) == 3) = false from rfl, cond_false]
  cases s with
  | nil => simp [isNameB]
  | cons c t =>
    rw [show (((c :: t : Str) == ([] : Str))) = false from rfl, cond_false]
    generalize hS : (c :: t : Str) = s at *
    have h0 : 1 ≤ s.length := by subst hS; simp
    have hne : (s != []) = true := by subst hS; rfl
    cases hl : letterB (bt s 0) with
    | true =>
      unfold token_next
      rw [gd (by omega), token_letter_eq, Option.bind_some, hl, cond_true, token_run_eq (p := fun j => partB (bt s (j : Int))) _ _ (by omega) (by omega) (fun j _ => token_part_eq _), Option.bind_some]
      simp only [isNameB, hne, hl, Bool.true_and]
      by_cases hg : stopN (fun j => partB (bt s (j : Int))) 0 s.length ≤ 20
      · have h1 : decide ((stopN (fun j => partB (bt s (j : Int))) 0 s.length : Int) > 20) = false := by simp; omega
        rw [h1, cond_false, decide_eq_true hg]
        simp only [Option.bind_some, Bool.true_and, beq_self_eq_true, cond_true]
        congr 1
        rw [Bool.eq_iff_iff, beq_iff_eq, beq_iff_eq]; omega
      · have h1 : decide ((stopN (fun j => partB (bt s (j : Int))) 0 s.length : Int) > 20) = true := by simp; omega
        rw [h1, cond_true, decide_eq_false hg]
        rfl
    | false =>
      obtain ⟨r, e, h⟩ := token_next_out (k := k) s h0 (by omega) (by omega) (by omega) hl
      rw [e, Option.bind_some]
      simp only [isNameB, hne, hl, Bool.true_and, Bool.false_and]
      rcases h with h | h
      · have : (r.2.2 == 0) = false := by simp [h]
        rw [this]; rfl
      · have : (r.1 == 1) = false := by simp [h]
        rw [this]; cases (r.2.2 == 0) <;> rfl

theorem ref01_quoted_out {k : Nat} (s : Str) (h0 : 1 ≤ s.length) (hk : s.length < k) (hs : s.length ≤ 1000000) : Out (ref01_quoted k s 0) (fun r => r = 0 ∨ (2 ≤ r ∧ r ≤ (s.length : Int))) := by
  refine loop1_out (I := fun i => 1 ≤ i) (P := fun _ r => r = 0 ∨ (2 ≤ r ∧ r ≤ (s.length : Int))) s.length (fun _ rec => ?_) (fun i hi h1 rec ih => ?_) k 1 h0 (by omega) (by omega)
  · simp only [ref01_quoted.b0, jn, Int.zero_add]
    rw [gd (inR_of (by omega))]
    refine ⟨0, by simp, .inl rfl⟩
  · have : decide ((i : Int) < (s.length : Int)) = true := by simp [hi]
    have g1 : inR (i : Int) := inR_of (by omega)
    have g2 : (0 : Int) ≤ (i : Int) ∧ (i : Int) < (s.length : Int) := by omega
    simp only [ref01_quoted.b0, jn, Int.zero_add, gd g1, gd g2, this, cond_true, gd (inR_nat (n := i) (by omega))]
    cases (bt s (i : Int) == 34) with
    | true => exact ⟨_, rfl, .inr (by omega)⟩
    | false =>
      rw [cond_false]
      cases decide (bt s (i : Int) < 32) with
      | true => exact ⟨_, rfl, .inl rfl⟩
      | false =>
        cases decide (bt s (i : Int) > 126) with
        | true => exact ⟨_, rfl, .inl rfl⟩
        | false => exact ih (by omega)
theorem ref01_one_out {k : Nat} (s : Str) (h0 : 1 ≤ s.length) (hk : s.length < k) (hk' : 100 ≤ k) (hs : s.length ≤ 1000000) (hl : letterB (bt s 0) = false) :
    Out (ref01_one k s 0) (fun r => r.2.2 ≠ 0 ∨ r.1.fKind ≠ 1) := by
  unfold ref01_one; simp only [jn]
  rw [gd (by omega)]
  simp only [ref01_letter_eq, ref01_digit_eq, Option.bind_some, hl, cond_false]
  cases hd : digitB (bt s 0) with
  | true =>
    rw [cond_true, ref01_run_eq _ _ hk hs, Option.bind_some]
    have hle := stopN_le (p := fun j => digitB (bt s (j : Int)) || (!true && (letterB (bt s (j : Int)) || (bt s (j : Int)) == 95))) (n := s.length)
    generalize hn : stopN (fun j => digitB (bt s (j : Int)) || (!true && (letterB (bt s (j : Int)) || (bt s (j : Int)) == 95))) 0 s.length = n at *
    rw [cond_true]
    cases decide ((n : Int) > 9) with
    | true => exact ⟨_, rfl, .inl (by simp)⟩
    | false =>
      rw [cond_false, gd (inR_of (by omega)), gd (by omega)]
      exact ⟨_, rfl, .inr (by simp)⟩
  | false =>
    rw [cond_false]
    cases (bt s 0 == 34) with
    | true =>
      rw [cond_true]
      refine Out.bind (ref01_quoted_out s h0 hk hs) fun r hr => ?_
      cases hz : (r == 0) with
      | true => exact ⟨_, rfl, .inl (by simp)⟩
      | false =>
        have hz' : r ≠ 0 := by simpa using hz
        rw [cond_false, gd (inR_of (by omega))]
        cases decide (r - 2 > 60) with
        | true => exact ⟨_, rfl, .inl (by simp)⟩
        | false =>
          rw [cond_false, gd (inR_of (by omega)), gd (inR_of (by omega)), gd (inR_of (by omega)), gd (by omega)]
          exact ⟨_, rfl, .inr (by simp)⟩
    | false =>
      rw [cond_false, ref01_signs, Option.bind_some]
      generalize hL : ([([45, 62] : Str), ([60, 61] : Str), ([62, 61] : Str), ([61, 61] : Str), ([33, 61] : Str), ([123] : Str), ([125] : Str), ([40] : Str), ([41] : Str), ([91] : Str), ([93] : Str), ([44] : Str), ([59] : Str), ([58] : Str), ([61] : Str), ([43] : Str), ([45] : Str), ([42] : Str), ([60] : Str), ([62] : Str), ([33] : Str), ([38] : Str), ([124] : Str), ([46] : Str), ([63] : Str)] : List Str) = L
      have hLl : L.length = 25 := by subst hL; rfl
      have hLe : ∀ x ∈ L, x.length ≤ 2 := by subst hL; decide
      refine loop1_out (I := fun _ => True) (P := fun _ (r : Token × Int × Int) => r.2.2 ≠ 0 ∨ r.1.fKind ≠ 1) L.length (fun _ rec => ?_) (fun i hi h1 rec ih => ?_) k 0 (Nat.zero_le _) (by omega) trivial
      · exact ⟨(Token.mk 0 [] 0, 0, 2), by simp [ref01_one.b0], .inl (by simp)⟩
      · have : decide ((i : Int) < (L.length : Int)) = true := by simp [hi]
        have g2 : (0 : Int) ≤ (i : Int) ∧ (i : Int) < (L.length : Int) := by omega
        have g3 := hLe _ (rd_mem g2.1 g2.2)
        have g4 : inR ((rd L (i : Int)).length : Int) := inR_of (by omega)
        simp only [ref01_one.b0, jn, Int.zero_add, gd g2, this, cond_true, gd (inR_nat (n := i) (by omega)), gd g4]
        cases hb : decide (((rd L (i : Int)).length : Int) ≤ (s.length : Int)) with
        | false => rw [cond_false, cond_false]; exact ih trivial
        | true =>
          have hb' : ((rd L (i : Int)).length : Int) ≤ (s.length : Int) := by simpa using hb
          rw [cond_true, gd (by omega)]
          generalize (List.drop _ (s.take _) == rd L (i : Int)) = q
          cases q with
          | true => exact ⟨_, rfl, .inr (by simp)⟩
          | false => exact ih trivial
theorem ref01_IsName_eq {k : Nat} (hk : 200 ≤ k) (s : Str) (hs : s.length ≤ 100) : ref01_IsName k s = some (isNameB s) := by
  unfold ref01_IsName ref01_Right ref01_text
  rw [show ((1 : Int) == 3) = false from rfl, cond_false, Option.bind_some]
  cases s with
  | nil => simp [isNameB]
  | cons c t =>
    rw [show (((c :: t : Str) == ([] : Str))) = false from rfl, cond_false]
    generalize hS : (c :: t : Str) = s at *
    have h0 : 1 ≤ s.length := by subst hS; simp
    have hne : (s != []) = true := by subst hS; rfl
    cases hl : letterB (bt s 0) with
    | true =>
      unfold ref01_one; simp only [jn]
      rw [gd (by omega)]
      simp only [ref01_letter_eq, ref01_digit_eq, Option.bind_some, hl, cond_true, letter_not_digit hl, cond_false]
      rw [ref01_run_eq _ _ (by omega) (by omega), Option.bind_some]
      have hc := stopN_congr (p := fun j => digitB (bt s (j : Int)) || (!false && (letterB (bt s (j : Int)) || (bt s (j : Int)) == 95))) (q := fun j => partB (bt s (j : Int))) (n := s.length) (i := 0)
        (fun j => by simp only [partB]; cases digitB (bt s (j : Int)) <;> cases letterB (bt s (j : Int)) <;> rfl)
      rw [hc]
      have hle := stopN_le (p := fun j => partB (bt s (j : Int))) (n := s.length)
      simp only [isNameB, hne, hl, Bool.true_and]
      generalize stopN (fun j => partB (bt s (j : Int))) 0 s.length = n at *
      by_cases hg : n ≤ 20
      · have h1 : decide ((n : Int) > 20) = false := by simp; omega
        rw [h1, cond_false, decide_eq_true hg, gd (inR_of (by omega)), gd (by omega)]
        simp only [Option.bind_some, Bool.true_and, beq_self_eq_true, cond_true]
        have h2 : ((n : Int) == (s.length : Int)) = (n == s.length) := by rw [Bool.eq_iff_iff, beq_iff_eq, beq_iff_eq]; omega
        rw [h2]; cases (n == s.length) <;> rfl
      · have h1 : decide ((n : Int) > 20) = true := by simp; omega
        rw [h1, cond_true, decide_eq_false hg]
        rfl
    | false =>
      obtain ⟨r, e, h⟩ := ref01_one_out (k := k) s h0 (by omega) (by omega) (by omega) hl
      rw [e, Option.bind_some]
      simp only [jn, isNameB, hne, hl, Bool.true_and, Bool.false_and]
      rcases h with h | h
      · have : (r.2.2 == 0) = false := by simp [h]
        rw [this]; rfl
      · have : (r.1.fKind == 1) = false := by simp [h]
        rw [this]; cases (r.2.2 == 0) <;> cases (r.2.1 == (s.length : Int)) <;> rfl
end Go.Proofs.YthmdmchmmgmblaaGreat

namespace Go.Proofs.YthmdmchmmgmblaaGreat
open Go Go.Abs

structure FewA (x : Attr) : Prop where
  name : x.fName.length ≤ 40
  names : x.fNames.length ≤ 25
  each : ∀ s ∈ x.fNames, s.length ≤ 40
structure FewT (t : Types) : Prop where
  nodes : t.fNodes.length ≤ 20
  edges : t.fEdges.length ≤ 30
  nname : ∀ n ∈ t.fNodes, n.fName.length ≤ 40
  nattr : ∀ n ∈ t.fNodes, n.fAttrs.length ≤ 30
  attr : ∀ n ∈ t.fNodes, ∀ x ∈ n.fAttrs, FewA x
  ename : ∀ x ∈ t.fEdges, x.fName.length ≤ 40

def namesErr (l : List Str) (i : Nat) : Int := bif !isNameB (rd l (i : Int)) then 2 else bif anyN (fun j => rd l (j : Int) == rd l (i : Int)) 0 i then 5 else 0
def namesS (l : List Str) : Int := bif decide ((l.length : Int) > 20) then 3 else scan (namesErr l) 0 l.length
theorem types_names_eq {k : Nat} (hk : 200 ≤ k) (l : List Str) (hl : ∀ s ∈ l, s.length ≤ 100) : types_names k l = some (namesS l) := by
  unfold types_names namesS
  cases hb : decide ((l.length : Int) > 20) with
  | true => rfl
  | false =>
    simp at hb
    rw [cond_false, cond_false]
    refine loop1_eq (fun i => scan (namesErr l) i l.length) l.length (fun rec => ?_) (fun i hi rec ih => ?_) (Nat.zero_le _) (by omega)
    · simp [types_names.b0, scan_end]
    · rw [scan_step hi]
      have h1 : decide ((i : Int) < (l.length : Int)) = true := by simp [hi]
      have h2 : (0 : Int) ≤ (i : Int) ∧ (i : Int) < (l.length : Int) := by omega
      have h3 : (l.take (i : Int).toNat).length = i := by simp; omega
      have h4 := token_IsName_eq (k := k) hk (rd l (i : Int)) (hl _ (rd_mem h2.1 h2.2))
      have h5 := Contains_string (k := k) (l.take (i : Int).toNat) (rd l (i : Int)) (by omega) (by omega)
      rw [h3] at h5
      rw [anyN_congr (q := fun j => rd l (j : Int) == rd l (i : Int)) (fun j _ hj => by rw [show (i : Int).toNat = i from rfl, rd_take hj, Bool.beq_comm])] at h5
      simp only [types_names.b0, h1, cond_true, gd h2, h4, Option.bind_some, gd (show (0 : Int) ≤ (i : Int) ∧ (i : Int) ≤ (l.length : Int) by omega), h5, gd (inR_nat (n := i) (by omega)), ih, namesErr]
      cases isNameB (rd l (i : Int)) <;> cases anyN (fun j => rd l (j : Int) == rd l (i : Int)) 0 i <;> rfl
theorem ref04_names_eq {k : Nat} (hk : 200 ≤ k) (l : List Str) (hl : ∀ s ∈ l, s.length ≤ 100) : ref04_names k l = some (namesS l) := by
  unfold ref04_names namesS
  cases hb : decide ((l.length : Int) > 20) with
  | true => rfl
  | false =>
    simp at hb
    rw [cond_false, cond_false]
    refine loop1_eq (fun i => scan (namesErr l) i l.length) l.length (fun rec => ?_) (fun i hi rec ih => ?_) (Nat.zero_le _) (by omega)
    · simp only [ref04_names.b0, scan_end, show decide ((l.length : Int) < (l.length : Int)) = false by simp, cond_false]
    · rw [scan_step hi]
      have h1 : decide ((i : Int) < (l.length : Int)) = true := by simp [hi]
      have h2 : (0 : Int) ≤ (i : Int) ∧ (i : Int) < (l.length : Int) := by omega
      have h4 := ref01_IsName_eq (k := k) hk (rd l (i : Int)) (hl _ (rd_mem h2.1 h2.2))
      have h5 : loop1 k (ref04_names.b1 l (i : Int) rec) ((0 : Nat) : Int) = some (bif anyN (fun j => rd l (j : Int) == rd l (i : Int)) 0 i then 5 else scan (namesErr l) (i + 1) l.length) := by
        refine loop1_eq (fun j => bif anyN (fun j => rd l (j : Int) == rd l (i : Int)) j i then 5 else scan (namesErr l) (i + 1) l.length) i (fun rec1 => ?_) (fun j hj rec1 ih1 => ?_) (Nat.zero_le _) (by omega)
        · simp only [ref04_names.b1, anyN_end, cond_false, gd (inR_nat (n := i) (by omega)), ih, show decide ((i : Int) < (i : Int)) = false by simp]
        · rw [anyN_step hj, ref04_names.b1, show decide ((j : Int) < (i : Int)) = true by simp [hj], cond_true, gd (show (0 : Int) ≤ (j : Int) ∧ (j : Int) < (l.length : Int) by omega), gd h2, gd (inR_nat (n := j) (by omega)), ih1]
          cases (rd l (j : Int) == rd l (i : Int)) with
          | true => rw [cond_true, Bool.true_or, cond_true]
          | false => rw [cond_false, Bool.false_or]
      have h6 : loop1 k (ref04_names.b1 l (i : Int) rec) 0 = _ := h5
      simp only [ref04_names.b0, h1, cond_true, gd h2, h4, Option.bind_some, h6, namesErr]
      cases isNameB (rd l (i : Int)) <;> cases anyN (fun j => rd l (j : Int) == rd l (i : Int)) 0 i <;> simp

def attrOwn (x : Attr) : Int :=
  bif namesS x.fNames != 0 then namesS x.fNames
  else bif decide ((x.fNames.length : Int) > 0) then (bif x.fLow == 0 && x.fHigh == (x.fNames.length : Int) - 1 then 0 else 6)
  else (bif decide (-1000000 ≤ x.fLow) && (decide (x.fLow ≤ x.fHigh) && decide (x.fHigh ≤ 1000000)) then 0 else 6)
def attrErr (all : List Attr) (i : Nat) : Int :=
  bif !isNameB (rd all (i : Int)).fName then 2 else bif anyN (fun j => (rd all (j : Int)).fName == (rd all (i : Int)).fName) 0 i then 5 else attrOwn (rd all (i : Int))
theorem types_attribute_eq {k : Nat} (hk : 200 ≤ k) (all : List Attr) (i : Nat) (hi : i < all.length) (hl : all.length ≤ 100) (hf : FewA (rd all (i : Int))) :
    types_attribute k (rd all (i : Int)) (all.take (i : Int).toNat) = some (attrErr all i) := by
  have h3 : (all.take (i : Int).toNat).length = i := by simp; omega
  have h4 := token_IsName_eq (k := k) hk (rd all (i : Int)).fName (by have := hf.name; omega)
  have h5 := ContainsFunc_Attr (k := k) (all.take (i : Int).toNat) (fun x => types_attribute_1 k x (rd all (i : Int))) _ (by omega) (by omega) (fun j _ => rfl)
  rw [h3, anyN_congr (q := fun j => (rd all (j : Int)).fName == (rd all (i : Int)).fName) (fun j _ hj => by rw [show (i : Int).toNat = i from rfl, rd_take hj])] at h5
  have h6 := types_names_eq (k := k) hk (rd all (i : Int)).fNames (fun s hs => by have := hf.each s hs; omega)
  unfold types_attribute attrErr attrOwn
  rw [h4, Option.bind_some, h5, Option.bind_some, h6, Option.bind_some]
  generalize rd all (i : Int) = x at *
  have hn := hf.names
  cases isNameB x.fName with
  | false => rfl
  | true =>
    cases anyN (fun j => (rd all (j : Int)).fName == x.fName) 0 i with
    | true => rfl
    | false =>
      cases hz : namesS x.fNames != 0 with
      | true => rfl
      | false =>
        simp only [jn, Bool.not_true, cond_false]
        cases decide ((x.fNames.length : Int) > 0) with
        | true =>
          simp only [cond_true, gd (inR_of (x := (x.fNames.length : Int) - 1) (by omega))]
          cases decide (-1000000 ≤ x.fLow) <;> cases decide (x.fLow ≤ x.fHigh) <;> cases (x.fLow == 0) <;> cases (x.fHigh == (x.fNames.length : Int) - 1) <;> rfl
        | false =>
          cases decide (-1000000 ≤ x.fLow) <;> cases decide (x.fLow ≤ x.fHigh) <;> cases decide (x.fHigh ≤ 1000000) <;> rfl
theorem ref04_in_eq {k : Nat} (a b c : Int) : ref04_in k a b c = some (decide (a ≥ b) && decide (a ≤ c)) := by
  simp only [ref04_in, jn]; cases decide (a ≥ b) <;> rfl
theorem ref04_attribute_eq {k : Nat} (hk : 200 ≤ k) (x : Attr) (hf : FewA x) : ref04_attribute k x = some (attrOwn x) := by
  have h6 := ref04_names_eq (k := k) hk x.fNames (fun s hs => by have := hf.each s hs; omega)
  unfold ref04_attribute attrOwn
  simp only [h6, jn, ref04_in_eq, Option.bind_some]
  have hn := hf.names
  cases hz : ((x.fNames.length : Int) == 0) with
  | true =>
    have hz' : x.fNames = [] := by
      have : (x.fNames.length : Int) = 0 := by simpa using hz
      exact List.length_eq_zero_iff.1 (by omega)
    rw [hz']
    have : namesS [] = 0 := rfl
    rw [this]
    simp only [bne_self_eq_false, cond_false, cond_true, List.length_nil]
    rw [show decide ((((0 : Nat) : Int)) > 0) = false from rfl, cond_false]
    by_cases h1 : -1000000 ≤ x.fLow <;> by_cases h2 : x.fLow ≤ 1000000 <;> by_cases h3 : x.fLow ≤ x.fHigh <;> by_cases h4 : x.fHigh ≤ 1000000 <;> simp [h1, h2, h3, h4] <;> omega
  | false =>
    have hz' : (x.fNames.length : Int) ≠ 0 := by simpa using hz
    rw [cond_false, decide_eq_true (show (x.fNames.length : Int) > 0 by omega), cond_true, gd (inR_of (x := (x.fNames.length : Int) - 1) (by omega))]
    cases (namesS x.fNames != 0) with
    | true => rfl
    | false =>
      simp only [cond_false, bne]
      cases (x.fLow == 0) <;> cases (x.fHigh == (x.fNames.length : Int) - 1) <;> rfl

def attrsS (ns : List NodeType) : Nat → Int → List Attr
  | 0, _ => []
  | d + 1, a => bif decide (a < 0) then [] else attrsS ns d (rd ns a).fParent ++ (rd ns a).fAttrs
def WfP (ns : List NodeType) (n : Nat) : Prop := n ≤ ns.length ∧ ∀ j : Nat, j < n → -1 ≤ (rd ns (j : Int)).fParent ∧ (rd ns (j : Int)).fParent < (j : Int)
theorem attrsS_neg {ns : List NodeType} {d : Nat} {a : Int} (h : a < 0) : attrsS ns d a = [] := by cases d <;> simp [attrsS, h]
theorem attrsS_pos {ns : List NodeType} {d : Nat} {a : Int} (h : 0 ≤ a) : attrsS ns (d + 1) a = attrsS ns d (rd ns a).fParent ++ (rd ns a).fAttrs := by
  have : decide (a < 0) = false := by simp; omega
  simp [attrsS, this]
theorem wf_at {ns : List NodeType} {n : Nat} (w : WfP ns n) {a : Int} (h0 : 0 ≤ a) (h : a < (n : Int)) : -1 ≤ (rd ns a).fParent ∧ (rd ns a).fParent < a := by
  have := w.2 a.toNat (by omega)
  rwa [Int.toNat_of_nonneg h0] at this
theorem attrsS_len {ns : List NodeType} {n : Nat} (w : WfP ns n) (hn : ∀ x ∈ ns, x.fAttrs.length ≤ 30) : ∀ (d : Nat) (a : Int), a < (n : Int) → (attrsS ns d a).length ≤ 30 * d
  | 0, _, _ => by simp [attrsS]
  | d + 1, a, h => by
    rcases Int.lt_or_le a 0 with ha | ha
    · rw [attrsS_neg ha]; simp
    · have hw := wf_at w ha h
      have hm := hn _ (rd_mem (l := ns) ha (by have := w.1; omega))
      have ih := attrsS_len w hn d (rd ns a).fParent (by omega)
      rw [attrsS_pos ha, List.length_append]
      omega
theorem attrsS_all {ns : List NodeType} {n : Nat} {G : Attr → Prop} (w : WfP ns n) (hn : ∀ x ∈ ns, ∀ a ∈ x.fAttrs, G a) : ∀ (d : Nat) (a : Int), a < (n : Int) → ∀ x ∈ attrsS ns d a, G x
  | 0, _, _ => by simp [attrsS]
  | d + 1, a, h => by
    rcases Int.lt_or_le a 0 with ha | ha
    · rw [attrsS_neg ha]; simp
    · have hw := wf_at w ha h
      have ih := attrsS_all w hn d (rd ns a).fParent (by omega)
      rw [attrsS_pos ha]
      intro x hx
      rcases List.mem_append.1 hx with hx | hx
      · exact ih x hx
      · exact hn _ (rd_mem (l := ns) ha (by have := w.1; omega)) x hx
theorem types_attrs_eq {t : Types} {n : Nat} (w : WfP t.fNodes n) (hn : ∀ x ∈ t.fNodes, x.fAttrs.length ≤ 30) : ∀ (d k : Nat) (a : Int), d ≤ 1000 → d ≤ k → 0 ≤ a → a < (d : Int) → a < (n : Int) →
    types_attrs k t a = some (attrsS t.fNodes d a)
  | 0, _, _, _, _, h0, h1, _ => by omega
  | d + 1, 0, _, _, hk, _, _, _ => by omega
  | d + 1, k + 1, a, hd, hk, h0, h1, h2 => by
    have hw := wf_at w h0 h2
    have g : (0 : Int) ≤ a ∧ a < (t.fNodes.length : Int) := ⟨h0, by have := w.1; omega⟩
    have hm := hn _ (rd_mem g.1 g.2)
    have hl := attrsS_len w hn d (rd t.fNodes a).fParent (by omega)
    rw [attrsS_pos h0]
    unfold types_attrs types_attrs.main
    simp only [jn, gd g]
    cases hp : decide ((rd t.fNodes a).fParent ≥ 0) with
    | true =>
      have hp' : (rd t.fNodes a).fParent ≥ 0 := by simpa using hp
      rw [cond_true, types_attrs_eq w hn d k _ (by omega) (by omega) hp' (by omega) (by omega), Option.bind_some, gd (by unfold lim; omega)]
    | false =>
      have hp' : (rd t.fNodes a).fParent < 0 := by have : ¬ (rd t.fNodes a).fParent ≥ 0 := by simpa using hp
                                                   omega
      rw [cond_false, attrsS_neg hp', gd (by simp [lim]; omega)]
theorem ref04_attrs_eq {t : Types} {n : Nat} (w : WfP t.fNodes n) (hn : ∀ x ∈ t.fNodes, x.fAttrs.length ≤ 30) : ∀ (d k : Nat) (a : Int), d ≤ 1000 → d < k → a < (d : Int) → a < (n : Int) →
    ref04_attrs k t a = some (attrsS t.fNodes d a)
  | d, 0, _, _, hk, _, _ => by omega
  | 0, k + 1, a, _, _, h1, _ => by
    unfold ref04_attrs ref04_attrs.main
    rw [decide_eq_true (show a < 0 by omega)]; rfl
  | d + 1, k + 1, a, hd, hk, h1, h2 => by
    unfold ref04_attrs ref04_attrs.main
    rcases Int.lt_or_le a 0 with ha | ha
    · rw [decide_eq_true ha, attrsS_neg ha]; rfl
    · have hw := wf_at w ha h2
      have g : (0 : Int) ≤ a ∧ a < (t.fNodes.length : Int) := ⟨ha, by have := w.1; omega⟩
      have hm := hn _ (rd_mem g.1 g.2)
      have hl := attrsS_len w hn d (rd t.fNodes a).fParent (by omega)
      rw [decide_eq_false (show ¬ a < 0 by omega), cond_false, attrsS_pos ha, gd g, ref04_attrs_eq w hn d k _ (by omega) (by omega) (by omega) (by omega), Option.bind_some, gd (by unfold lim; omega), gd g, gd (by unfold lim; omega)]

def nodeErr (t : Types) (i : Nat) : Int :=
  bif !isNameB (rd t.fNodes (i : Int)).fName then 2
  else bif anyN (fun j => (rd t.fNodes (j : Int)).fName == (rd t.fNodes (i : Int)).fName) 0 i then 5
  else bif decide ((rd t.fNodes (i : Int)).fParent < -1) || decide ((rd t.fNodes (i : Int)).fParent ≥ (i : Int)) then 6
  else bif decide (((rd t.fNodes (i : Int)).fAttrs.length : Int) > 4) then 3
  else bif decide (((attrsS t.fNodes 100 (i : Int)).length : Int) > 8) then 3
  else scan (attrErr (attrsS t.fNodes 100 (i : Int))) ((attrsS t.fNodes 100 (i : Int)).length - (rd t.fNodes (i : Int)).fAttrs.length) (attrsS t.fNodes 100 (i : Int)).length
theorem wf_succ {ns : List NodeType} {i : Nat} (w : WfP ns i) (hi : i < ns.length) (h : -1 ≤ (rd ns (i : Int)).fParent ∧ (rd ns (i : Int)).fParent < (i : Int)) : WfP ns (i + 1) :=
  ⟨hi, fun j hj => by rcases Nat.lt_succ_iff_lt_or_eq.1 hj with hj | rfl
                      · exact w.2 j hj
                      · exact h⟩
theorem nodeErr_wf {t : Types} {i : Nat} (w : WfP t.fNodes i) (hi : i < t.fNodes.length) (h : nodeErr t i = 0) : WfP t.fNodes (i + 1) := by
  refine wf_succ w hi ?_
  unfold nodeErr at h
  cases h1 : isNameB (rd t.fNodes (i : Int)).fName
  · rw [h1] at h; simp at h
  cases h2 : anyN (fun j => (rd t.fNodes (j : Int)).fName == (rd t.fNodes (i : Int)).fName) 0 i
  · rw [h1, h2] at h
    simp only [Bool.not_true, cond_false] at h
    cases hp : decide ((rd t.fNodes (i : Int)).fParent < -1) || decide ((rd t.fNodes (i : Int)).fParent ≥ (i : Int)) with
    | true => rw [hp] at h; simp at h
    | false =>
      simp only [Bool.or_eq_false_iff, decide_eq_false_iff_not] at hp
      omega
  · rw [h1, h2] at h; simp at h

theorem types_node_eq {k : Nat} (hk : 200 ≤ k) {t : Types} (ht : FewT t) {i : Nat} (hi : i < t.fNodes.length) (w : WfP t.fNodes i) : types_node k t (i : Int) = some (nodeErr t i) := by
  have h20 := ht.nodes
  have h1 : (0 : Int) ≤ (i : Int) ∧ (i : Int) < (t.fNodes.length : Int) := by omega
  have hm := rd_mem h1.1 h1.2
  have h3 : (t.fNodes.take (i : Int).toNat).length = i := by simp; omega
  have h4 := token_IsName_eq (k := k) hk (rd t.fNodes (i : Int)).fName (by have := ht.nname _ hm; omega)
  have h5 := ContainsFunc_NodeType (k := k) (t.fNodes.take (i : Int).toNat) (fun x => types_node_1 k x (rd t.fNodes (i : Int))) _ (by omega) (by omega) (fun j _ => rfl)
  rw [h3, anyN_congr (q := fun j => (rd t.fNodes (j : Int)).fName == (rd t.fNodes (i : Int)).fName) (fun j _ hj => by rw [show (i : Int).toNat = i from rfl, rd_take hj])] at h5
  unfold types_node nodeErr
  rw [gd h1, h4, Option.bind_some]
  cases isNameB (rd t.fNodes (i : Int)).fName with
  | false => rfl
  | true =>
    rw [Bool.not_true, cond_false, cond_false, gd (by omega), h5, Option.bind_some]
    cases anyN (fun j => (rd t.fNodes (j : Int)).fName == (rd t.fNodes (i : Int)).fName) 0 i with
    | true => rfl
    | false =>
      simp only [cond_false, jn]
      cases hp1 : decide ((rd t.fNodes (i : Int)).fParent < -1) with
      | true => rfl
      | false =>
        cases hp2 : decide ((rd t.fNodes (i : Int)).fParent ≥ (i : Int)) with
        | true => rfl
        | false =>
          simp only [decide_eq_false_iff_not] at hp1 hp2
          have w' := wf_succ w hi (by omega)
          have ha := types_attrs_eq w' ht.nattr 100 k (i : Int) (by omega) (by omega) (by omega) (by omega) (by omega)
          have hall := attrsS_all w' ht.attr 100 (i : Int) (by omega)
          have hlen : (rd t.fNodes (i : Int)).fAttrs.length ≤ (attrsS t.fNodes 100 (i : Int)).length := by rw [attrsS_pos (by omega)]; simp
          rw [ha, Option.bind_some]
          generalize attrsS t.fNodes 100 (i : Int) = all at *
          simp only [Bool.or_false, cond_false]
          cases decide (((rd t.fNodes (i : Int)).fAttrs.length : Int) > 4) with
          | true => rfl
          | false =>
            cases h8 : decide ((all.length : Int) > 8) with
            | true => rfl
            | false =>
              simp at h8
              rw [cond_false, cond_false, gd (inR_of (by omega)), show ((all.length : Int) - ((rd t.fNodes (i : Int)).fAttrs.length : Int)) = ((all.length - (rd t.fNodes (i : Int)).fAttrs.length : Nat) : Int) by omega]
              refine loop1_eq (fun j => scan (attrErr all) j all.length) all.length (fun rec => ?_) (fun j hj rec ih => ?_) (by omega) (by omega)
              · simp [types_node.b0, scan_end]
              · rw [scan_step hj]
                have g2 : (0 : Int) ≤ (j : Int) ∧ (j : Int) < (all.length : Int) := by omega
                have h7 := types_attribute_eq (k := k) hk all j hj (by omega) (hall _ (rd_mem g2.1 g2.2))
                simp only [types_node.b0, show decide ((j : Int) < (all.length : Int)) = true by simp [hj], cond_true, gd g2, gd (show (0 : Int) ≤ (j : Int) ∧ (j : Int) ≤ (all.length : Int) by omega), h7, Option.bind_some, gd (inR_nat (n := j) (by omega)), ih]
                cases (attrErr all j != 0) <;> rfl
theorem ref04_node_eq {k : Nat} (hk : 200 ≤ k) {t : Types} (ht : FewT t) {i : Nat} (hi : i < t.fNodes.length) (w : WfP t.fNodes i) : ref04_node k t (i : Int) = some (nodeErr t i) := by
  have h20 := ht.nodes
  have h1 : (0 : Int) ≤ (i : Int) ∧ (i : Int) < (t.fNodes.length : Int) := by omega
  have hm := rd_mem h1.1 h1.2
  have h4 := ref01_IsName_eq (k := k) hk (rd t.fNodes (i : Int)).fName (by have := ht.nname _ hm; omega)
  unfold ref04_node nodeErr
  rw [gd h1, h4, Option.bind_some]
  cases isNameB (rd t.fNodes (i : Int)).fName with
  | false => rfl
  | true =>
    rw [Bool.not_true, cond_false, cond_false, show (0 : Int) = ((0 : Nat) : Int) from rfl]
    generalize hE : (bif decide ((rd t.fNodes (i : Int)).fParent < -1) || decide ((rd t.fNodes (i : Int)).fParent ≥ (i : Int)) then (6 : Int)
      else bif decide (((rd t.fNodes (i : Int)).fAttrs.length : Int) > 4) then 3
      else bif decide (((attrsS t.fNodes 100 (i : Int)).length : Int) > 8) then 3
      else scan (attrErr (attrsS t.fNodes 100 (i : Int))) ((attrsS t.fNodes 100 (i : Int)).length - (rd t.fNodes (i : Int)).fAttrs.length) (attrsS t.fNodes 100 (i : Int)).length) = E
    refine loop1_eq (fun j => bif anyN (fun j => (rd t.fNodes (j : Int)).fName == (rd t.fNodes (i : Int)).fName) j i then 5 else E) i (fun rec => ?_) (fun j hj rec ih => ?_) (Nat.zero_le _) (by omega)
    · rw [anyN_end, cond_false]
      simp only [ref04_node.b0, show decide ((i : Int) < (i : Int)) = false by simp, cond_false, gd (inR_of (x := (i : Int) - 1) (by omega)), ref04_in_eq, Option.bind_some, jn]
      subst hE
      by_cases hp1 : (rd t.fNodes (i : Int)).fParent < -1
      · rw [decide_eq_true hp1, decide_eq_false (show ¬ (rd t.fNodes (i : Int)).fParent ≥ -1 by omega)]; rfl
      by_cases hp2 : (rd t.fNodes (i : Int)).fParent ≥ (i : Int)
      · rw [decide_eq_true hp2, decide_eq_false hp1, decide_eq_false (show ¬ (rd t.fNodes (i : Int)).fParent ≤ (i : Int) - 1 by omega), Bool.and_false]; rfl
      have w' := wf_succ w hi (by omega)
      have ha := ref04_attrs_eq w' ht.nattr 100 k (i : Int) (by omega) (by omega) (by omega) (by omega)
      have hall := attrsS_all w' ht.attr 100 (i : Int) (by omega)
      have hlen : (rd t.fNodes (i : Int)).fAttrs.length ≤ (attrsS t.fNodes 100 (i : Int)).length := by rw [attrsS_pos (by omega)]; simp
      rw [ha, Option.bind_some, decide_eq_false hp1, decide_eq_false hp2, decide_eq_true (show (rd t.fNodes (i : Int)).fParent ≥ -1 by omega), decide_eq_true (show (rd t.fNodes (i : Int)).fParent ≤ (i : Int) - 1 by omega)]
      generalize attrsS t.fNodes 100 (i : Int) = all at *
      simp only [Bool.or_false, Bool.and_true, Bool.not_true, cond_false]
      cases decide (((rd t.fNodes (i : Int)).fAttrs.length : Int) > 4) with
      | true => rfl
      | false =>
        cases h8 : decide ((all.length : Int) > 8) with
        | true => rfl
        | false =>
          simp at h8
          rw [cond_false, cond_false, cond_false, cond_false, gd (inR_of (by omega)), show ((all.length : Int) - ((rd t.fNodes (i : Int)).fAttrs.length : Int)) = ((all.length - (rd t.fNodes (i : Int)).fAttrs.length : Nat) : Int) by omega]
          refine loop1_eq (fun j => scan (attrErr all) j all.length) all.length (fun rec => ?_) (fun j hj rec ih => ?_) (by omega) (by omega)
          · simp [ref04_node.b1, scan_end]
          · rw [scan_step hj]
            have g2 : (0 : Int) ≤ (j : Int) ∧ (j : Int) < (all.length : Int) := by omega
            have hfa := hall _ (rd_mem g2.1 g2.2)
            have h7 := ref04_attribute_eq (k := k) hk _ hfa
            have h8 := ref01_IsName_eq (k := k) hk (rd all (j : Int)).fName (by have := hfa.name; omega)
            have h9 : loop1 k (ref04_node.b2 k all (j : Int) rec) ((0 : Nat) : Int) = some (bif anyN (fun m => (rd all (m : Int)).fName == (rd all (j : Int)).fName) 0 j then 5 else bif attrOwn (rd all (j : Int)) != 0 then attrOwn (rd all (j : Int)) else scan (attrErr all) (j + 1) all.length) := by
              refine loop1_eq (fun m => bif anyN (fun m => (rd all (m : Int)).fName == (rd all (j : Int)).fName) m j then 5 else bif attrOwn (rd all (j : Int)) != 0 then attrOwn (rd all (j : Int)) else scan (attrErr all) (j + 1) all.length) j (fun rec1 => ?_) (fun m hm rec1 ih1 => ?_) (Nat.zero_le _) (by omega)
              · simp only [ref04_node.b2, anyN_end, cond_false, gd g2, h7, Option.bind_some, gd (inR_nat (n := j) (by omega)), ih, show decide ((j : Int) < (j : Int)) = false by simp]
                cases (attrOwn (rd all (j : Int)) != 0) <;> rfl
              · rw [anyN_step hm]
                simp only [ref04_node.b2, show decide ((m : Int) < (j : Int)) = true by simp [hm], cond_true, gd g2, gd (show (0 : Int) ≤ (m : Int) ∧ (m : Int) < (all.length : Int) by omega), gd (inR_nat (n := m) (by omega)), ih1]
                cases ((rd all (m : Int)).fName == (rd all (j : Int)).fName) <;> rfl
            have h10 : loop1 k (ref04_node.b2 k all (j : Int) rec) 0 = _ := h9
            simp only [ref04_node.b1, show decide ((j : Int) < (all.length : Int)) = true by simp [hj], cond_true, gd g2, h8, Option.bind_some, h10, attrErr]
            cases isNameB (rd all (j : Int)).fName <;> cases anyN (fun m => (rd all (m : Int)).fName == (rd all (j : Int)).fName) 0 j <;> rfl
    · rw [anyN_step hj]
      simp only [ref04_node.b0, show decide ((j : Int) < (i : Int)) = true by simp [hj], cond_true, gd (show (0 : Int) ≤ (j : Int) ∧ (j : Int) < (t.fNodes.length : Int) by omega), gd (inR_nat (n := j) (by omega)), ih]
      cases ((rd t.fNodes (j : Int)).fName == (rd t.fNodes (i : Int)).fName) <;> rfl

def boundB (a b : Int) : Bool := decide (a ≥ 0) && (decide (a ≤ 40) && (b == -1 || (decide (b ≥ a) && decide (b ≤ 40))))
theorem types_bounded_eq {k : Nat} (a b : Int) : types_bounded k a b = some (boundB a b) := by
  simp only [types_bounded, jn, boundB]
  cases decide (a ≥ 0) <;> cases decide (a ≤ 40) <;> cases (b == -1) <;> cases decide (b ≥ a) <;> rfl
theorem ref04_bound_eq {k : Nat} (a b : Int) : ref04_bound k a b = some (boundB a b) := by
  simp only [ref04_bound, jn, boundB, ref04_in_eq, Option.bind_some]
  cases decide (a ≥ 0) <;> cases decide (a ≤ 40) <;> cases (b == -1) <;> cases decide (b ≥ a) <;> rfl
def insB (a : Int) (t : Types) : Bool := decide (a ≥ 0) && decide (a < (t.fNodes.length : Int))
theorem types_edge_1_eq {k : Nat} (a : Int) (t : Types) : types_edge_1 k a t = some (insB a t) := by
  simp only [types_edge_1, jn, insB]
  cases decide (a ≥ 0) <;> rfl
theorem ins_eq (a : Int) (t : Types) : (decide (a ≥ 0) && decide (a ≤ (t.fNodes.length : Int) - 1)) = insB a t := by
  unfold insB; rw [Bool.eq_iff_iff]; simp; omega
def edgeErr (t : Types) (i : Nat) : Int :=
  bif !isNameB (rd t.fEdges (i : Int)).fName then 2
  else bif anyN (fun j => (rd t.fEdges (j : Int)).fName == (rd t.fEdges (i : Int)).fName) 0 i then 5
  else bif insB (rd t.fEdges (i : Int)).fFrom t && (insB (rd t.fEdges (i : Int)).fTo t && (boundB (rd t.fEdges (i : Int)).fOutLow (rd t.fEdges (i : Int)).fOutHigh && boundB (rd t.fEdges (i : Int)).fInLow (rd t.fEdges (i : Int)).fInHigh)) then 0 else 6
theorem types_edge_eq {k : Nat} (hk : 200 ≤ k) {t : Types} (ht : FewT t) {i : Nat} (hi : i < t.fEdges.length) : types_edge k t (i : Int) = some (edgeErr t i) := by
  have h20 := ht.edges
  have h1 : (0 : Int) ≤ (i : Int) ∧ (i : Int) < (t.fEdges.length : Int) := by omega
  have hm := rd_mem h1.1 h1.2
  have h3 : (t.fEdges.take (i : Int).toNat).length = i := by simp; omega
  have h4 := token_IsName_eq (k := k) hk (rd t.fEdges (i : Int)).fName (by have := ht.ename _ hm; omega)
  have h5 := ContainsFunc_EdgeType (k := k) (t.fEdges.take (i : Int).toNat) (fun x => types_edge_2 k x (rd t.fEdges (i : Int))) _ (by omega) (by omega) (fun j _ => rfl)
  rw [h3, anyN_congr (q := fun j => (rd t.fEdges (j : Int)).fName == (rd t.fEdges (i : Int)).fName) (fun j _ hj => by rw [show (i : Int).toNat = i from rfl, rd_take hj])] at h5
  unfold types_edge edgeErr
  simp only [gd h1, h4, Option.bind_some, gd (show (0 : Int) ≤ (i : Int) ∧ (i : Int) ≤ (t.fEdges.length : Int) by omega), h5, jn, types_edge_1_eq, types_bounded_eq]
  cases isNameB (rd t.fEdges (i : Int)).fName <;> cases anyN (fun j => (rd t.fEdges (j : Int)).fName == (rd t.fEdges (i : Int)).fName) 0 i <;> cases insB (rd t.fEdges (i : Int)).fFrom t <;> cases insB (rd t.fEdges (i : Int)).fTo t <;>
    cases boundB (rd t.fEdges (i : Int)).fOutLow (rd t.fEdges (i : Int)).fOutHigh <;> cases boundB (rd t.fEdges (i : Int)).fInLow (rd t.fEdges (i : Int)).fInHigh <;> rfl
theorem ref04_edge_eq {k : Nat} (hk : 200 ≤ k) {t : Types} (ht : FewT t) {i : Nat} (hi : i < t.fEdges.length) : ref04_edge k t (i : Int) = some (edgeErr t i) := by
  have h20 := ht.edges
  have h21 := ht.nodes
  have h1 : (0 : Int) ≤ (i : Int) ∧ (i : Int) < (t.fEdges.length : Int) := by omega
  have hm := rd_mem h1.1 h1.2
  have h4 := ref01_IsName_eq (k := k) hk (rd t.fEdges (i : Int)).fName (by have := ht.ename _ hm; omega)
  unfold ref04_edge edgeErr
  rw [gd h1, h4, Option.bind_some]
  cases isNameB (rd t.fEdges (i : Int)).fName with
  | false => rfl
  | true =>
    rw [Bool.not_true, cond_false, cond_false, show (0 : Int) = ((0 : Nat) : Int) from rfl]
    refine loop1_eq (fun j => bif anyN (fun j => (rd t.fEdges (j : Int)).fName == (rd t.fEdges (i : Int)).fName) j i then (5 : Int) else _) i (fun rec => ?_) (fun j hj rec ih => ?_) (Nat.zero_le _) (by omega)
    · rw [anyN_end, cond_false]
      simp only [ref04_edge.b0, show decide ((i : Int) < (i : Int)) = false by simp, cond_false, gd (inR_of (x := (t.fNodes.length : Int) - 1) (by omega)), ref04_in_eq, ins_eq, ref04_bound_eq, Option.bind_some, jn]
      cases insB (rd t.fEdges (i : Int)).fFrom t <;> cases insB (rd t.fEdges (i : Int)).fTo t <;>
        cases boundB (rd t.fEdges (i : Int)).fOutLow (rd t.fEdges (i : Int)).fOutHigh <;> cases boundB (rd t.fEdges (i : Int)).fInLow (rd t.fEdges (i : Int)).fInHigh <;> rfl
    · rw [anyN_step hj]
      simp only [ref04_edge.b0, show decide ((j : Int) < (i : Int)) = true by simp [hj], cond_true, gd (show (0 : Int) ≤ (j : Int) ∧ (j : Int) < (t.fEdges.length : Int) by omega), gd (inR_nat (n := j) (by omega)), ih]
      cases ((rd t.fEdges (j : Int)).fName == (rd t.fEdges (i : Int)).fName) <;> rfl

def valid2S (t : Types) (i : Nat) : Int := bif scan (nodeErr t) i t.fNodes.length != 0 then scan (nodeErr t) i t.fNodes.length else scan (edgeErr t) 0 t.fEdges.length
def validS (t : Types) : Int :=
  bif ((t.fNodes.length : Int) == 0) then 7 else bif decide ((t.fNodes.length : Int) > 12) || decide ((t.fEdges.length : Int) > 20) then 3 else valid2S t 0
theorem types_Valid_out {k : Nat} (hk : 200 ≤ k) {t : Types} (ht : FewT t) : Out (types_Valid k t) (fun r => r.2 = validS t) := by
  have h20 := ht.nodes
  have h30 := ht.edges
  unfold types_Valid validS; simp only [jn]
  cases ((t.fNodes.length : Int) == 0) with
  | true => exact ⟨_, rfl, rfl⟩
  | false =>
    cases decide ((t.fNodes.length : Int) > 12) with
    | true => exact ⟨_, rfl, rfl⟩
    | false =>
      cases decide ((t.fEdges.length : Int) > 20) with
      | true => exact ⟨_, rfl, rfl⟩
      | false =>
        refine loop1_out (I := fun i => WfP t.fNodes i) (P := fun i (r : Str × Int) => r.2 = valid2S t i) t.fNodes.length (fun w rec => ?_) (fun i hi w rec ih => ?_) k 0 (Nat.zero_le _) (by omega) ⟨Nat.zero_le _, fun j hj => by omega⟩
        · simp only [types_Valid.b0, show decide ((t.fNodes.length : Int) < (t.fNodes.length : Int)) = false by simp, cond_false, valid2S, scan_end, bne_self_eq_false]
          refine loop1_out (I := fun _ => True) (P := fun i (r : Str × Int) => r.2 = scan (edgeErr t) i t.fEdges.length) t.fEdges.length (fun _ rec => ?_) (fun i hi _ rec ih => ?_) k 0 (Nat.zero_le _) (by omega) trivial
          · simp only [types_Valid.b1, show decide ((t.fEdges.length : Int) < (t.fEdges.length : Int)) = false by simp, cond_false, scan_end]
            exact ⟨_, rfl, rfl⟩
          · rw [scan_step hi]
            simp only [types_Valid.b1, show decide ((i : Int) < (t.fEdges.length : Int)) = true by simp [hi], cond_true, gd (show (0 : Int) ≤ (i : Int) ∧ (i : Int) < (t.fEdges.length : Int) by omega), types_edge_eq hk ht hi, Option.bind_some, gd (inR_nat (n := i) (by omega))]
            cases (edgeErr t i != 0) with
            | true => exact ⟨_, rfl, rfl⟩
            | false => exact ih trivial
        · unfold valid2S
          rw [scan_step hi]
          simp only [types_Valid.b0, show decide ((i : Int) < (t.fNodes.length : Int)) = true by simp [hi], cond_true, gd (show (0 : Int) ≤ (i : Int) ∧ (i : Int) < (t.fNodes.length : Int) by omega), types_node_eq hk ht hi w, Option.bind_some, gd (inR_nat (n := i) (by omega))]
          cases hz : (nodeErr t i != 0) with
          | true => exact ⟨_, rfl, by rw [cond_true, hz]; rfl⟩
          | false => exact ih (nodeErr_wf w hi (by simpa using hz))
theorem ref04_Valid_out {k : Nat} (hk : 200 ≤ k) {t : Types} (ht : FewT t) : Out (ref04_Valid k t) (fun r => r.2 = validS t) := by
  have h20 := ht.nodes
  have h30 := ht.edges
  unfold ref04_Valid validS; simp only [jn]
  cases ((t.fNodes.length : Int) == 0) with
  | true => exact ⟨_, rfl, rfl⟩
  | false =>
    cases decide ((t.fNodes.length : Int) > 12) with
    | true => exact ⟨_, rfl, rfl⟩
    | false =>
      cases decide ((t.fEdges.length : Int) > 20) with
      | true => exact ⟨_, rfl, rfl⟩
      | false =>
        refine loop1_out (I := fun i => WfP t.fNodes i) (P := fun i (r : Str × Int) => r.2 = valid2S t i) t.fNodes.length (fun w rec => ?_) (fun i hi w rec ih => ?_) k 0 (Nat.zero_le _) (by omega) ⟨Nat.zero_le _, fun j hj => by omega⟩
        · simp only [ref04_Valid.b0, show decide ((t.fNodes.length : Int) < (t.fNodes.length : Int)) = false by simp, cond_false, valid2S, scan_end, bne_self_eq_false]
          refine loop1_out (I := fun _ => True) (P := fun i (r : Str × Int) => r.2 = scan (edgeErr t) i t.fEdges.length) t.fEdges.length (fun _ rec => ?_) (fun i hi _ rec ih => ?_) k 0 (Nat.zero_le _) (by omega) trivial
          · simp only [ref04_Valid.b1, show decide ((t.fEdges.length : Int) < (t.fEdges.length : Int)) = false by simp, cond_false, scan_end]
            exact ⟨_, rfl, rfl⟩
          · rw [scan_step hi]
            simp only [ref04_Valid.b1, show decide ((i : Int) < (t.fEdges.length : Int)) = true by simp [hi], cond_true, gd (show (0 : Int) ≤ (i : Int) ∧ (i : Int) < (t.fEdges.length : Int) by omega), ref04_edge_eq hk ht hi, Option.bind_some, gd (inR_nat (n := i) (by omega))]
            cases (edgeErr t i != 0) with
            | true => exact ⟨_, rfl, rfl⟩
            | false => exact ih trivial
        · unfold valid2S
          rw [scan_step hi]
          simp only [ref04_Valid.b0, show decide ((i : Int) < (t.fNodes.length : Int)) = true by simp [hi], cond_true, gd (show (0 : Int) ≤ (i : Int) ∧ (i : Int) < (t.fNodes.length : Int) by omega), ref04_node_eq hk ht hi w, Option.bind_some, gd (inR_nat (n := i) (by omega))]
          cases hz : (nodeErr t i != 0) with
          | true => exact ⟨_, rfl, by rw [cond_true, hz]; rfl⟩
          | false => exact ih (nodeErr_wf w hi (by simpa using hz))
/-- What a type graph without error has. -/
theorem valid_wf {t : Types} (h : validS t = 0) : WfP t.fNodes t.fNodes.length ∧ t.fNodes.length ≤ 12 ∧ t.fEdges.length ≤ 20 := by
  unfold validS at h
  cases h0 : ((t.fNodes.length : Int) == 0) with
  | true => rw [h0] at h; simp at h
  | false =>
    cases h1 : decide ((t.fNodes.length : Int) > 12) || decide ((t.fEdges.length : Int) > 20) with
    | true => rw [h0, h1] at h; simp at h
    | false =>
      simp only [Bool.or_eq_false_iff, decide_eq_false_iff_not] at h1
      rw [h0] at h
      have h1' : (decide ((t.fNodes.length : Int) > 12) || decide ((t.fEdges.length : Int) > 20)) = false := by simp; omega
      rw [h1'] at h
      simp only [cond_false, valid2S] at h
      have hz : scan (nodeErr t) 0 t.fNodes.length = 0 := by
        cases hb : (scan (nodeErr t) 0 t.fNodes.length != 0) with
        | true => rw [hb] at h; exact h
        | false => simpa using hb
      refine ⟨?_, by omega, by omega⟩
      have : ∀ i, i ≤ t.fNodes.length → WfP t.fNodes i := by
        intro i
        induction i with
        | zero => intro _; exact ⟨Nat.zero_le _, fun j hj => by omega⟩
        | succ i ih => intro hi; exact nodeErr_wf (ih (by omega)) (by omega) (scan_zero hz i (Nat.zero_le _) (by omega))
      exact this _ (Nat.le_refl _)
end Go.Proofs.YthmdmchmmgmblaaGreat

namespace Go.Proofs.YthmdmchmmgmblaaGreat
open Go Go.Abs

def kindB (x : Int) : Bool := decide (x ≥ 0) && decide (x ≤ 99)
def ltB (x n : Int) : Bool := decide (x ≥ 0) && decide (x < n)
def rightB (e : Edge) (n : Int) : Bool := kindB e.fType && (ltB e.fFrom n && ltB e.fTo n)
theorem graph_within_eq {k : Nat} (a b : Int) : graph_within k a b = some (decide (a ≥ 0) && decide (a ≤ b)) := by
  simp only [graph_within, jn]; cases decide (a ≥ 0) <;> rfl
theorem graph_fits_eq {k : Nat} (e : Edge) {n : Int} (hn : inR (n - 1)) : graph_fits k e n = some (rightB e n) := by
  simp only [graph_fits, jn, graph_within_eq, Option.bind_some, gd hn, rightB, kindB, ltB]
  have h1 : decide (e.fFrom ≤ n - 1) = decide (e.fFrom < n) := by rw [Bool.eq_iff_iff]; simp; omega
  have h2 : decide (e.fTo ≤ n - 1) = decide (e.fTo < n) := by rw [Bool.eq_iff_iff]; simp; omega
  rw [h1, h2]
  cases (decide (e.fType ≥ 0) && decide (e.fType ≤ 99)) <;> cases (decide (e.fFrom ≥ 0) && decide (e.fFrom < n)) <;> rfl
theorem ref05_kind_eq {k : Nat} (a : Int) : ref05_kind k a = some (kindB a) := by
  simp only [ref05_kind, jn, kindB]; cases decide (a ≥ 0) <;> rfl
theorem ref05_right_eq {k : Nat} (e : Edge) (n : Int) : ref05_right k e n = some (rightB e n) := by
  simp only [ref05_right, jn, ref05_kind_eq, Option.bind_some, rightB, ltB]
  cases kindB e.fType <;> cases decide (e.fFrom ≥ 0) <;> cases decide (e.fFrom < n) <;> cases decide (e.fTo ≥ 0) <;> rfl

structure FewG (g : Graph) : Prop where
  nodes : g.fNodes.length ≤ 45
  edges : g.fEdges.length ≤ 90

def edges6 (g : Graph) (i : Nat) : Int := bif anyN (fun j => !rightB (rd g.fEdges (j : Int)) (g.fNodes.length : Int)) i g.fEdges.length then 6 else 0
def nodes6 (g : Graph) (i : Nat) : Int := bif anyN (fun j => !kindB (rd g.fNodes (j : Int))) i g.fNodes.length then 6 else edges6 g 0
def graphErr (g : Graph) : Int := bif decide ((g.fNodes.length : Int) > 40) || decide ((g.fEdges.length : Int) > 80) then 3 else nodes6 g 0
theorem graph_Valid_eq {k : Nat} (hk : 200 ≤ k) {g : Graph} (hg : FewG g) : graph_Valid k g = some (graphErr g) := by
  have h1 := hg.nodes; have h2 := hg.edges
  have h3 := ContainsFunc_int (k := k) g.fNodes (fun x => graph_Valid_1 k x) (fun j => !kindB (rd g.fNodes (j : Int))) (by omega) (by omega) (fun j _ => by simp only [graph_Valid_1, graph_within_eq, Option.bind_some, kindB])
  have h4 := ContainsFunc_Edge (k := k) g.fEdges (fun x => graph_Valid_2 k x g) (fun j => !rightB (rd g.fEdges (j : Int)) (g.fNodes.length : Int)) (by omega) (by omega)
    (fun j _ => by simp only [graph_Valid_2, graph_fits_eq _ (inR_of (x := (g.fNodes.length : Int) - 1) (by omega)), Option.bind_some])
  simp only [graph_Valid, jn, h3, h4, Option.bind_some, graphErr, nodes6, edges6]
  cases decide ((g.fNodes.length : Int) > 40) <;> cases decide ((g.fEdges.length : Int) > 80) <;> cases anyN (fun j => !kindB (rd g.fNodes (j : Int))) 0 g.fNodes.length <;> cases anyN (fun j => !rightB (rd g.fEdges (j : Int)) (g.fNodes.length : Int)) 0 g.fEdges.length <;> rfl
theorem ref05_Valid_eq {k : Nat} (hk : 200 ≤ k) {g : Graph} (hg : FewG g) : ref05_Valid k g = some (graphErr g) := by
  have h1 := hg.nodes; have h2 := hg.edges
  have h3 : loop1 k (ref05_Valid.b0 k g) ((0 : Nat) : Int) = some (nodes6 g 0) := by
    refine loop1_eq (fun i => nodes6 g i) g.fNodes.length (fun rec => ?_) (fun i hi rec ih => ?_) (Nat.zero_le _) (by omega)
    · simp only [ref05_Valid.b0, show decide ((g.fNodes.length : Int) < (g.fNodes.length : Int)) = false by simp, cond_false, nodes6, anyN_end]
      have h4 : loop1 k (ref05_Valid.b1 k g) ((0 : Nat) : Int) = some (edges6 g 0) := by
        refine loop1_eq (fun i => edges6 g i) g.fEdges.length (fun rec => ?_) (fun i hi rec ih => ?_) (Nat.zero_le _) (by omega)
        · simp only [ref05_Valid.b1, show decide ((g.fEdges.length : Int) < (g.fEdges.length : Int)) = false by simp, cond_false, edges6, anyN_end]
        · simp only [edges6] at ih
          simp only [edges6, anyN_step hi, ref05_Valid.b1, show decide ((i : Int) < (g.fEdges.length : Int)) = true by simp [hi], cond_true, gd (show (0 : Int) ≤ (i : Int) ∧ (i : Int) < (g.fEdges.length : Int) by omega), ref05_right_eq, Option.bind_some, gd (inR_nat (n := i) (by omega)), ih]
          cases rightB (rd g.fEdges (i : Int)) (g.fNodes.length : Int) with
          | true => simp only [Bool.not_true, cond_false, Bool.false_or]
          | false => simp only [Bool.not_false, cond_true, Bool.true_or]
      exact h4
    · simp only [nodes6] at ih
      simp only [nodes6, anyN_step hi, ref05_Valid.b0, show decide ((i : Int) < (g.fNodes.length : Int)) = true by simp [hi], cond_true, gd (show (0 : Int) ≤ (i : Int) ∧ (i : Int) < (g.fNodes.length : Int) by omega), ref05_kind_eq, Option.bind_some, gd (inR_nat (n := i) (by omega)), ih]
      cases kindB (rd g.fNodes (i : Int)) with
      | true => simp only [Bool.not_true, cond_false, Bool.false_or]
      | false => simp only [Bool.not_false, cond_true, Bool.true_or]
  have h4 : loop1 k (ref05_Valid.b0 k g) 0 = some (nodes6 g 0) := h3
  simp only [ref05_Valid, jn, h4, graphErr]
  cases decide ((g.fNodes.length : Int) > 40) <;> cases decide ((g.fEdges.length : Int) > 80) <;> rfl

structure GoodG (g : Graph) : Prop where
  nodes : g.fNodes.length ≤ 40
  edges : g.fEdges.length ≤ 80
  kind : ∀ j : Nat, j < g.fNodes.length → 0 ≤ rd g.fNodes (j : Int) ∧ rd g.fNodes (j : Int) ≤ 99
  right : ∀ j : Nat, j < g.fEdges.length → 0 ≤ (rd g.fEdges (j : Int)).fType ∧ (0 ≤ (rd g.fEdges (j : Int)).fFrom ∧ (rd g.fEdges (j : Int)).fFrom < (g.fNodes.length : Int)) ∧ (0 ≤ (rd g.fEdges (j : Int)).fTo ∧ (rd g.fEdges (j : Int)).fTo < (g.fNodes.length : Int))
theorem anyN_false {p : Nat → Bool} {i n : Nat} (h : anyN p i n = false) : ∀ j, i ≤ j → j < n → p j = false := fun j h1 h2 => by
  cases hp : p j with
  | false => rfl
  | true => rw [anyN_iff.2 ⟨j, h1, h2, hp⟩] at h; cases h
theorem anyN_none {p : Nat → Bool} {i n : Nat} (h : ∀ j, i ≤ j → j < n → p j = false) : anyN p i n = false := by
  cases hp : anyN p i n with
  | false => rfl
  | true => obtain ⟨j, h1, h2, h3⟩ := anyN_iff.1 hp; rw [h j h1 h2] at h3; cases h3
theorem graphErr_good {g : Graph} (h : graphErr g = 0) : GoodG g := by
  unfold graphErr nodes6 edges6 at h
  cases h0 : decide ((g.fNodes.length : Int) > 40) || decide ((g.fEdges.length : Int) > 80) with
  | true => rw [h0] at h; simp at h
  | false =>
    rw [h0] at h
    cases h1 : anyN (fun j => !kindB (rd g.fNodes (j : Int))) 0 g.fNodes.length with
    | true => rw [h1] at h; simp at h
    | false =>
      rw [h1] at h
      cases h2 : anyN (fun j => !rightB (rd g.fEdges (j : Int)) (g.fNodes.length : Int)) 0 g.fEdges.length with
      | true => rw [h2] at h; simp at h
      | false =>
        simp only [Bool.or_eq_false_iff, decide_eq_false_iff_not] at h0
        refine ⟨by omega, by omega, fun j hj => ?_, fun j hj => ?_⟩
        · have := anyN_false h1 j (Nat.zero_le _) hj
          simp only [kindB, Bool.not_eq_false', Bool.and_eq_true, decide_eq_true_eq] at this
          omega
        · have := anyN_false h2 j (Nat.zero_le _) hj
          simp only [rightB, kindB, ltB, Bool.not_eq_false', Bool.and_eq_true, decide_eq_true_eq] at this
          omega
theorem good_graphErr {g : Graph} (h : GoodG g) (ht : ∀ j : Nat, j < g.fEdges.length → (rd g.fEdges (j : Int)).fType ≤ 99) : graphErr g = 0 := by
  have a := h.nodes; have b := h.edges
  unfold graphErr nodes6 edges6
  have h0 : (decide ((g.fNodes.length : Int) > 40) || decide ((g.fEdges.length : Int) > 80)) = false := by simp; omega
  rw [h0, cond_false, anyN_none, cond_false, anyN_none, cond_false]
  · intro j _ hj
    have := h.right j hj; have := ht j hj
    simp [rightB, kindB, ltB]; omega
  · intro j _ hj
    have := h.kind j hj
    simp [kindB]; omega

def typedB (t : Types) (g : Graph) : Bool := !anyN (fun j => decide (rd g.fNodes (j : Int) ≥ (t.fNodes.length : Int))) 0 g.fNodes.length && !anyN (fun j => decide ((rd g.fEdges (j : Int)).fType ≥ (t.fEdges.length : Int))) 0 g.fEdges.length
def givenS (t : Types) (p g : Graph) : Int :=
  bif validS t != 0 then validS t else bif graphErr p != 0 then graphErr p else bif graphErr g != 0 then graphErr g else bif typedB t p && typedB t g then 0 else 13
structure Small (t : Types) (p g : Graph) : Prop where
  t : FewT t
  p : FewG p
  g : FewG g
structure Fine (t : Types) (p g : Graph) : Prop where
  ok : validS t = 0
  gp : GoodG p
  gg : GoodG g
  tp : typedB t p = true
  tg : typedB t g = true
/-! ### What is small -/
structure FewN (n : NodeType) : Prop where
  name : n.fName.length ≤ 40
  attrs : n.fAttrs.length ≤ 30
  attr : ∀ j : Nat, j < n.fAttrs.length → FewA (rd n.fAttrs (j : Int))
structure LightP (t : Types) (p g : Graph) : Prop where
  small : Small t p g
  few : givenS t p g = 0 → p.fNodes.length + p.fEdges.length ≤ 6 ∧ g.fNodes.length ≤ 8 ∧ g.fEdges.length ≤ 12
end Go.Proofs.YthmdmchmmgmblaaGreat

namespace Go.Proofs.YthmdmchmmgmblaaGreat
open Go Go.Abs

theorem anyN_mem {l : List Int} {b : Int} : anyN (fun j => b == rd l (j : Int)) 0 l.length = decide (b ∈ l) := by
  rw [Bool.eq_iff_iff, anyN_iff, decide_eq_true_eq]
  constructor
  · rintro ⟨j, _, hj, h⟩
    have : b = rd l (j : Int) := by simpa using h
    rw [this]; exact rd_mem (by omega) (by omega)
  · intro h
    obtain ⟨i, hi, rfl⟩ := List.mem_iff_getElem.1 h
    exact ⟨i, Nat.zero_le _, hi, by simp [rd, List.getD, List.getElem?_eq_getElem hi]⟩
theorem rd_set {α : Type} [Inhabited α] {l : List α} {x y : Int} {v : α} (h0 : 0 ≤ x) (hx : x < (l.length : Int)) (hy : 0 ≤ y) : rd (l.set x.toNat v) y = if y = x then v else rd l y := by
  unfold rd
  by_cases h : y = x
  · subst h
    have : y.toNat < l.length := by omega
    simp [List.getD, List.getElem?_set, this]
  · have : ¬ x.toNat = y.toNat := by omega
    simp [List.getD, List.getElem?_set, this, h]
theorem mem_rd {l : List Int} {b : Int} : b ∈ l ↔ ∃ x : Int, 0 ≤ x ∧ x < (l.length : Int) ∧ b = rd l x := by
  constructor
  · intro h
    obtain ⟨i, hi, rfl⟩ := List.mem_iff_getElem.1 h
    exact ⟨i, by omega, by omega, by simp [rd, List.getD, List.getElem?_eq_getElem hi]⟩
  · rintro ⟨x, h0, h1, rfl⟩; exact rd_mem h0 h1
theorem swap_mem {l : List Int} {i j : Int} (hi0 : 0 ≤ i) (hi : i < (l.length : Int)) (hj0 : 0 ≤ j) (hj : j < (l.length : Int)) (b : Int) : b ∈ (l.set i.toNat (rd l j)).set j.toNat (rd l i) ↔ b ∈ l := by
  have hg : ∀ y : Int, 0 ≤ y → rd ((l.set i.toNat (rd l j)).set j.toNat (rd l i)) y = if y = j then rd l i else if y = i then rd l j else rd l y := by
    intro y hy
    rw [rd_set hj0 (by simp; omega) hy, rd_set hi0 hi hy]
  rw [mem_rd, mem_rd]
  simp only [List.length_set]
  constructor
  · rintro ⟨x, h0, h1, rfl⟩
    rw [hg x h0]
    by_cases e1 : x = j
    · rw [if_pos e1]; exact ⟨i, hi0, hi, rfl⟩
    · rw [if_neg e1]
      by_cases e2 : x = i
      · rw [if_pos e2]; exact ⟨j, hj0, hj, rfl⟩
      · rw [if_neg e2]; exact ⟨x, h0, h1, rfl⟩
  · rintro ⟨x, h0, h1, rfl⟩
    by_cases e1 : x = i
    · subst e1; exact ⟨j, hj0, hj, by rw [hg j hj0, if_pos rfl]⟩
    · by_cases e2 : x = j
      · subst e2
        exact ⟨i, hi0, hi, by rw [hg i hi0, if_neg (fun h => e1 h.symm), if_pos rfl]⟩
      · exact ⟨x, h0, h1, by rw [hg x h0, if_neg e2, if_neg e1]⟩
theorem Reverse_out : ∀ (k : Nat) (l : List Int) (i j : Int), 0 ≤ i → j < (l.length : Int) → l.length ≤ 1000000 → (j - i).toNat < k → i ≤ 1000000 → -10 ≤ j →
    Out (loop3 k slices_Reverse_int.b0 l i j) (fun r => r.length = l.length ∧ ∀ b, b ∈ r ↔ b ∈ l)
  | 0, l, i, j, _, _, _, h, _, _ => by omega
  | k + 1, l, i, j, h0, h1, h2, h3, h4, h5 => by
    unfold loop3
    cases hb : decide (i < j) with
    | false => exact ⟨l, by rw [slices_Reverse_int.b0, hb, cond_false], rfl, fun _ => Iff.rfl⟩
    | true =>
      simp at hb
      rw [slices_Reverse_int.b0, decide_eq_true hb, cond_true, gd (by omega), gd (by omega), gd (by omega), gd (by rw [List.length_set]; omega), gd (inR_of (by omega)), gd (inR_of (by omega))]
      refine (Reverse_out k _ (i + 1) (j - 1) (by omega) (by simp; omega) (by simpa using h2) (by omega) (by omega) (by omega)).mono fun r hr => ⟨by simpa using hr.1, fun b => ?_⟩
      rw [hr.2 b, swap_mem (by omega) (by omega) (by omega) (by omega)]

def chain (ns : List NodeType) : Nat → Int → List Int
  | 0, _ => []
  | d + 1, a => bif decide (a < 0) then [] else a :: chain ns d (rd ns a).fParent
theorem chain_neg {ns : List NodeType} {d : Nat} {a : Int} (h : a < 0) : chain ns d a = [] := by cases d <;> simp [chain, h]
theorem chain_pos {ns : List NodeType} {d : Nat} {a : Int} (h : 0 ≤ a) : chain ns (d + 1) a = a :: chain ns d (rd ns a).fParent := by
  have : decide (a < 0) = false := by simp; omega
  simp [chain, this]
def isB (ns : List NodeType) (a b : Int) : Bool := decide (b ∈ chain ns 100 a)
theorem line_out {K : Nat} (hK : 200 ≤ K) {t : Types} {n : Nat} (w : WfP t.fNodes n) : ∀ (d k : Nat) (a : Int) (acc : List Int), d < k → a < (d : Int) → a < (n : Int) → acc.length + d ≤ 150 →
    Out (loop2 k (types_line.b0 K t) a acc) (fun r => r.length ≤ 150 ∧ ∀ b, b ∈ r ↔ b ∈ acc ∨ b ∈ chain t.fNodes d a)
  | d, 0, _, _, h, _, _, _ => by omega
  | d, k + 1, a, acc, hk, hd, hn, hl => by
    unfold loop2
    rcases Int.lt_or_le a 0 with ha | ha
    · rw [types_line.b0, decide_eq_false (show ¬ a ≥ 0 by omega), cond_false, slices_Reverse_int, gd (inR_of (by omega))]
      refine Out.bind (Reverse_out K acc 0 _ (by omega) (by omega) (by omega) (by omega) (by omega) (by omega)) fun r hr => ⟨r, rfl, by omega, fun b => ?_⟩
      rw [hr.2, chain_neg ha]; simp
    · obtain ⟨d, rfl⟩ : ∃ e, d = e + 1 := ⟨d - 1, by omega⟩
      have hw := wf_at w ha hn
      have hn' := w.1
      rw [types_line.b0, decide_eq_true (show a ≥ 0 by omega), cond_true, gd (by simp [lim]; omega), gd (by omega)]
      refine (line_out hK w d k _ (acc ++ [a]) (by omega) (by omega) (by omega) (by simp; omega)).mono fun r hr => ⟨hr.1, fun b => ?_⟩
      rw [hr.2, chain_pos ha]; simp [or_assoc]
theorem types_is_eq {k : Nat} (hk : 200 ≤ k) {t : Types} {n : Nat} (w : WfP t.fNodes n) (hn : n ≤ 50) {a b : Int} (ha : a < (n : Int)) : types_is k t a b = some (isB t.fNodes a b) := by
  unfold types_is types_line
  obtain ⟨r, e, h1, h2⟩ := line_out (K := k) hk w 100 k a [] (by omega) (by omega) ha (by simp)
  rw [e, Option.bind_some, Contains_int _ _ (by omega) (by omega), Option.bind_some, anyN_mem]
  congr 1
  unfold isB
  rw [Bool.eq_iff_iff, decide_eq_true_eq, decide_eq_true_eq, h2]; simp
theorem Below1_eq {t : Types} {n : Nat} (w : WfP t.fNodes n) {b : Int} (hb : 0 ≤ b) : ∀ (d k : Nat) (a : Int), d < k → -1 ≤ a → a < (d : Int) → a < (n : Int) → ref04_Below1 k t a b = some (decide (b ∈ chain t.fNodes d a))
  | d, 0, _, h, _, _, _ => by omega
  | d, k + 1, a, hk, h1, hd, hn => by
    unfold ref04_Below1 ref04_Below1.main
    rcases Int.lt_or_le a 0 with ha | ha
    · have e1 : (a == b) = false := by simp; omega
      rw [jn, e1, cond_false, decide_eq_false (show ¬ a ≥ 0 by omega), cond_false, chain_neg ha]
      simp
    · obtain ⟨d, rfl⟩ : ∃ e, d = e + 1 := ⟨d - 1, by omega⟩
      have hw := wf_at w ha hn
      have hn' := w.1
      rw [jn, chain_pos ha]
      by_cases e : a = b
      · subst e; simp
      · have e1 : (a == b) = false := by simp [e]
        rw [e1, cond_false, decide_eq_true (show a ≥ 0 by omega), cond_true, gd (by omega), Below1_eq w hb d k _ (by omega) (by omega) (by omega) (by omega), Option.bind_some]
        congr 1
        rw [Bool.eq_iff_iff, decide_eq_true_eq, decide_eq_true_eq, List.mem_cons]
        exact ⟨.inr, fun h => h.resolve_left fun h => e h.symm⟩
theorem ref04_Below1_eq {k : Nat} (hk : 200 ≤ k) {t : Types} {n : Nat} (w : WfP t.fNodes n) (hn : n ≤ 50) {a b : Int} (h0 : 0 ≤ a) (ha : a < (n : Int)) (hb : 0 ≤ b) : ref04_Below1 k t a b = some (isB t.fNodes a b) :=
  Below1_eq w hb 100 k a (by omega) (by omega) (by omega) ha

theorem types_given_eq {k : Nat} (hk : 200 ≤ k) {t : Types} (ht : FewT t) (hv : validS t = 0) {a : Int} (h0 : 0 ≤ a) (ha : a < (t.fNodes.length : Int)) : types_given k t [a] = some 0 := by
  obtain ⟨r, e, hr⟩ := types_Valid_out hk ht
  unfold types_given
  rw [e, Option.bind_some, hr, hv]
  rw [ContainsFunc_int (k := k) [a] (fun x => types_given_1 k x t) (fun j => decide (rd [a] (j : Int) < 0) || decide (rd [a] (j : Int) ≥ (t.fNodes.length : Int))) (by simp; omega) (by simp) (fun j _ => by
    simp only [types_given_1, jn]; cases decide (rd [a] (j : Int) < 0) <;> rfl)]
  rw [anyN_none fun j _ hj => ?_]
  · rfl
  · have : j = 0 := by simp at hj; omega
    subst this
    have e : rd [a] ((0 : Nat) : Int) = a := rfl
    rw [e, decide_eq_false (by omega), decide_eq_false (by omega)]; rfl
theorem rd_append_lt {α : Type} [Inhabited α] {l m : List α} {x : Int} (h0 : 0 ≤ x) (h : x < (l.length : Int)) : rd (l ++ m) x = rd l x := by
  have : x.toNat < l.length := by omega
  simp [rd, List.getD, List.getElem?_append, this]
theorem rd_append_eq {α : Type} [Inhabited α] {l : List α} {v : α} : rd (l ++ [v]) (l.length : Int) = v := by simp [rd, List.getD]
structure Table (ns : List NodeType) (M : List (List Bool)) (i : Nat) : Prop where
  len : M.length = i
  row : ∀ a : Nat, a < i → (rd M (a : Int)).length = ns.length
  at' : ∀ a : Nat, a < i → ∀ b : Nat, b < ns.length → rd (rd M (a : Int)) (b : Int) = isB ns (b : Int) (a : Int)
end Go.Proofs.YthmdmchmmgmblaaGreat

namespace Go.Proofs.YthmdmchmmgmblaaGreat
open Go Go.Abs

/-- The pattern with the types of the images. -/
structure InstP (p g : Graph) (m : Morphism) (r : Graph × Int) : Prop where
  ok : r.2 = 0
  edges : r.1.fEdges = p.fEdges
  len : r.1.fNodes.length = m.fNodes.length
  at' : ∀ j : Nat, j < m.fNodes.length → rd r.1.fNodes (j : Int) = rd g.fNodes (rd m.fNodes (j : Int))
end Go.Proofs.YthmdmchmmgmblaaGreat

namespace Go.Proofs.YthmdmchmmgmblaaGreat
open Go Go.Abs

/-- A problem: pattern, graph, node types, given images (-1: none), injective or not. -/
structure Pb where
  p : Graph
  g : Graph
  ns : List NodeType
  pn : Int → Int
  pe : Int → Int
  inj : Bool
def eqE (q : Pb) (l : List Int) (i k : Int) : Bool :=
  ((rd q.p.fEdges i).fType == (rd q.g.fEdges k).fType) && (((rd q.g.fEdges k).fFrom == rd l (rd q.p.fEdges i).fFrom) && ((rd q.g.fEdges k).fTo == rd l (rd q.p.fEdges i).fTo))
/-! ### A pruned branch holds nothing -/
/-! ### Loops that carry what is found -/
/-! ### The program's way -/
/-- What a search is about; the sizes are those of a light case. -/
structure Ctx (q : Pb) : Prop where
  gp : GoodG q.p
  gg : GoodG q.g
  tp : ∀ j : Nat, j < q.p.fNodes.length → rd q.p.fNodes (j : Int) < (q.ns.length : Int)
  tg : ∀ j : Nat, j < q.g.fNodes.length → rd q.g.fNodes (j : Int) < (q.ns.length : Int)
  wf : WfP q.ns q.ns.length
  few : q.ns.length ≤ 50
end Go.Proofs.YthmdmchmmgmblaaGreat

namespace Go.Proofs.YthmdmchmmgmblaaGreat
open Go Go.Abs

/-! ### The reference's way -/
structure RefP (q : Pb) (t : Types) (part : Morphism) : Prop where
  ns : t.fNodes = q.ns
  ln : part.fNodes.length = q.p.fNodes.length
  le : part.fEdges.length = q.p.fEdges.length
  pn : ∀ i : Nat, i < q.p.fNodes.length → rd part.fNodes (i : Int) = q.pn (i : Int)
  pe : ∀ i : Nat, i < q.p.fEdges.length → rd part.fEdges (i : Int) = q.pe (i : Int)
end Go.Proofs.YthmdmchmmgmblaaGreat

namespace Go.Proofs.YthmdmchmmgmblaaGreat
open Go Go.Abs

/-- A match without images. -/
structure AllNeg (p : Graph) (m : Morphism) : Prop where
  ln : m.fNodes.length = p.fNodes.length
  le : m.fEdges.length = p.fEdges.length
  n : ∀ i : Nat, i < p.fNodes.length → rd m.fNodes (i : Int) = -1
  e : ∀ i : Nat, i < p.fEdges.length → rd m.fEdges (i : Int) = -1
end Go.Proofs.YthmdmchmmgmblaaGreat

namespace Go.Proofs.YthmdmchmmgmblaaGreat
open Go Go.Abs

/-! ### All: what is found is a match, and in order -/
structure EdgesOk (q : Pb) (l e : List Int) : Prop where
  fit : ∀ i : Nat, i < e.length → 0 ≤ rd e (i : Int) ∧ rd e (i : Int) < (q.g.fEdges.length : Int) ∧ eqE q l (i : Int) (rd e (i : Int)) = true
  inj : q.inj = true → e.Nodup
structure NodesOk (q : Pb) (l : List Int) : Prop where
  fit : ∀ i : Nat, i < l.length → 0 ≤ rd l (i : Int) ∧ rd l (i : Int) < (q.g.fNodes.length : Int) ∧ isB q.ns (rd q.g.fNodes (rd l (i : Int))) (rd q.p.fNodes (i : Int)) = true
  inj : q.inj = true → l.Nodup
end Go.Proofs.YthmdmchmmgmblaaGreat

namespace Go.Proofs.YthmdmchmmgmblaaGreat
open Go Go.Abs

theorem set_rd {α : Type} [Inhabited α] {l : List α} {i : Nat} (hi : i < l.length) : l.set i (rd l (i : Int)) = l := by
  have : rd l (i : Int) = l[i] := by simp [rd, List.getD, List.getElem?_eq_getElem hi]
  rw [this, List.set_getElem_self]
theorem take_rdA {α : Type} [Inhabited α] {l : List α} {i : Nat} (hi : i < l.length) : l.take (i + 1) = l.take i ++ [rd l (i : Int)] := by
  have : rd l (i : Int) = l[i] := by simp [rd, List.getD, List.getElem?_eq_getElem hi]
  rw [this, List.take_succ_eq_append_getElem hi]
theorem Attrs_eq {k : Nat} (hk : 1000 ≤ k) {t : Types} (ht : FewT t) (hv : validS t = 0) {a : Int} (h0 : 0 ≤ a) (ha : a < (t.fNodes.length : Int)) : types_Attrs k t a = some (attrsS t.fNodes t.fNodes.length a, 0) := by
  obtain ⟨w, h12, _⟩ := valid_wf hv
  have hl := attrsS_len w (fun x hx => ht.nattr x hx) t.fNodes.length a ha
  have hA := attrsS_all (G := FewA) w (fun x hx => ht.attr x hx) t.fNodes.length a ha
  unfold types_Attrs
  rw [types_given_eq (by omega) ht hv h0 ha, Option.bind_some, bne_self_eq_false, cond_false, types_attrs_eq w (fun x hx => ht.nattr x hx) t.fNodes.length k a (by omega) (by omega) h0 ha ha, Option.bind_some]
  generalize attrsS t.fNodes t.fNodes.length a = l at *
  refine Out.eq (loop2_out (S := List Attr) (P := fun _ _ r => r = (l, 0)) (I := fun s _ => s = l) l.length (fun s hs rec => ?_) (fun s i hi hs rec ih => ?_) k 0 l (Nat.zero_le _) (by omega) rfl)
  · rw [types_Attrs.b0, decide_eq_false (show ¬ (l.length : Int) < (l.length : Int) by omega), cond_false, hs]; exact ⟨_, rfl, rfl⟩
  · subst hs
    have hf := (hA _ (rd_mem (l := s) (x := (i : Int)) (by omega) (by omega))).names
    rw [types_Attrs.b0, decide_eq_true (show (i : Int) < (s.length : Int) by omega), cond_true, gd ⟨by omega, by omega⟩]
    unfold slices_Clone_string
    rw [gd (show (rd s (i : Int)).fNames.length ≤ lim by unfold lim; omega), Option.bind_some, gd ⟨by omega, by omega⟩, gd (inR_nat (n := i) (by omega))]
    exact ih _ (set_rd hi)
theorem ref04_given_eq {k : Nat} (hk : 200 ≤ k) {t : Types} (ht : FewT t) (hv : validS t = 0) {a b : Int} (h0 : 0 ≤ a) (ha : a < (t.fNodes.length : Int)) (g0 : 0 ≤ b) (gb : b < (t.fNodes.length : Int)) : ref04_given k t a b = some 0 := by
  obtain ⟨r, e, hr⟩ := ref04_Valid_out hk ht
  have h20 := ht.nodes
  unfold ref04_given jn; dsimp only
  rw [e, Option.bind_some, hr, hv, bne_self_eq_false, cond_false, gd (inR_of (by omega)), ref04_in_eq, Option.bind_some]
  rw [decide_eq_true (show a ≥ 0 by omega), decide_eq_true (show a ≤ (t.fNodes.length : Int) - 1 by omega), Bool.and_true, Bool.not_true, cond_false, gd (inR_of (by omega)), ref04_in_eq, Option.bind_some]
  rw [decide_eq_true (show b ≥ 0 by omega), decide_eq_true (show b ≤ (t.fNodes.length : Int) - 1 by omega)]; rfl
theorem ref04_Attrs_eq {k : Nat} (hk : 1000 ≤ k) {t : Types} (ht : FewT t) (hv : validS t = 0) {a : Int} (h0 : 0 ≤ a) (ha : a < (t.fNodes.length : Int)) : ref04_Attrs k t a = some (attrsS t.fNodes t.fNodes.length a, 0) := by
  obtain ⟨w, h12, _⟩ := valid_wf hv
  have hl := attrsS_len w (fun x hx => ht.nattr x hx) t.fNodes.length a ha
  have hA := attrsS_all (G := FewA) w (fun x hx => ht.attr x hx) t.fNodes.length a ha
  unfold ref04_Attrs
  rw [ref04_given_eq (by omega) ht hv h0 ha h0 ha, Option.bind_some, bne_self_eq_false, cond_false, ref04_attrs_eq w (fun x hx => ht.nattr x hx) t.fNodes.length k a (by omega) (by omega) ha ha, Option.bind_some]
  generalize attrsS t.fNodes t.fNodes.length a = l at *
  refine Out.eq (loop2_out (S := List Attr) (P := fun _ _ r => r = (l, 0)) (I := fun s i => s = l.take i) l.length (fun s hs rec => ?_) (fun s i hi hs rec ih => ?_) k 0 [] (Nat.zero_le _) (by omega) rfl)
  · rw [ref04_Attrs.b0, decide_eq_false (show ¬ (l.length : Int) < (l.length : Int) by omega), cond_false, hs, List.take_length]; exact ⟨_, rfl, rfl⟩
  · have hf := (hA _ (rd_mem (l := l) (x := (i : Int)) (by omega) (by omega))).names
    have hsl : s.length ≤ 360 := by rw [hs, List.length_take]; omega
    rw [ref04_Attrs.b0, decide_eq_true (show (i : Int) < (l.length : Int) by omega), cond_true, gd ⟨by omega, by omega⟩, gd (show (rd l (i : Int)).fNames.length ≤ lim by unfold lim; omega), gd (show s.length + [rd l (i : Int)].length ≤ lim by unfold lim; simp; omega), gd (inR_nat (n := i) (by omega))]
    exact ih _ (by rw [hs, take_rdA hi])
end Go.Proofs.YthmdmchmmgmblaaGreat

namespace Go.Proofs.YthmdmchmmgmblaaGreat
open Go Go.Abs

/-- A type graph without error, and a graph whose nodes have its types. -/
structure Over (t : Types) (g : Graph) : Prop where
  few : FewT t
  val : validS t = 0
  nodes : ∀ x ∈ g.fNodes, 0 ≤ x ∧ x < (t.fNodes.length : Int)
  len : g.fNodes.length ≤ 45
/-! ### Tests -/
end Go.Proofs.YthmdmchmmgmblaaGreat

namespace Go.Proofs.YthmdmchmmgmblaaGreat
open Go Go.Abs

def firstF (e : Nat → Int) (z : Int × Int) : Nat → Nat → Int × Int
  | _, 0 => z
  | i, d + 1 => bif e i != 0 then ((i : Int), e i) else firstF e z (i + 1) d
/-- The first place with an error, and it; else 'z'. -/
def first (e : Nat → Int) (z : Int × Int) (i n : Nat) : Int × Int := firstF e z i (n - i)
theorem first_end {e : Nat → Int} {z : Int × Int} {n : Nat} : first e z n n = z := by simp [first, firstF]
theorem first_step {e : Nat → Int} {z : Int × Int} {i n : Nat} (h : i < n) : first e z i n = bif e i != 0 then ((i : Int), e i) else first e z (i + 1) n := by
  have : n - i = (n - (i + 1)) + 1 := by omega
  unfold first; rw [this]; rfl
theorem valid_edge {t : Types} (h : validS t = 0) {j : Nat} (hj : j < t.fEdges.length) : insB (rd t.fEdges (j : Int)).fFrom t = true ∧ insB (rd t.fEdges (j : Int)).fTo t = true := by
  unfold validS at h
  cases h0 : ((t.fNodes.length : Int) == 0) with
  | true => rw [h0] at h; cases h
  | false =>
    cases h1 : decide ((t.fNodes.length : Int) > 12) || decide ((t.fEdges.length : Int) > 20) with
    | true => rw [h0, h1] at h; cases h
    | false =>
      rw [h0, h1, cond_false, cond_false] at h
      unfold valid2S at h
      cases h2 : (scan (nodeErr t) 0 t.fNodes.length != 0) with
      | true => rw [h2, cond_true] at h; rw [h] at h2; cases h2
      | false =>
        rw [h2, cond_false] at h
        have he := scan_zero h j (Nat.zero_le _) hj
        unfold edgeErr at he
        cases a1 : isNameB (rd t.fEdges (j : Int)).fName with
        | false => rw [a1] at he; cases he
        | true =>
          cases a2 : anyN (fun q => (rd t.fEdges (q : Int)).fName == (rd t.fEdges (j : Int)).fName) 0 j with
          | true => rw [a1, a2] at he; cases he
          | false =>
            cases a3 : insB (rd t.fEdges (j : Int)).fFrom t with
            | false => rw [a1, a2, a3] at he; cases he
            | true =>
              cases a4 : insB (rd t.fEdges (j : Int)).fTo t with
              | false => rw [a1, a2, a3, a4] at he; cases he
              | true => exact ⟨rfl, rfl⟩
theorem insB_range {a : Int} {t : Types} (h : insB a t = true) : 0 ≤ a ∧ a < (t.fNodes.length : Int) := by
  unfold insB at h; simpa using h
theorem types_given2_eq {k : Nat} (hk : 200 ≤ k) {t : Types} (ht : FewT t) (hv : validS t = 0) {a b : Int} (h0 : 0 ≤ a) (ha : a < (t.fNodes.length : Int)) (g0 : 0 ≤ b) (gb : b < (t.fNodes.length : Int)) : types_given k t [a, b] = some 0 := by
  obtain ⟨r, e, hr⟩ := types_Valid_out hk ht
  unfold types_given
  rw [e, Option.bind_some, hr, hv]
  rw [ContainsFunc_int (k := k) [a, b] (fun x => types_given_1 k x t) (fun j => decide (rd [a, b] (j : Int) < 0) || decide (rd [a, b] (j : Int) ≥ (t.fNodes.length : Int))) (by simp; omega) (by simp) (fun j _ => by
    simp only [types_given_1, jn]; cases decide (rd [a, b] (j : Int) < 0) <;> rfl)]
  rw [anyN_none fun j _ hj => ?_]
  · rfl
  · have : j = 0 ∨ j = 1 := by simp at hj; omega
    rcases this with rfl | rfl
    · have e : rd [a, b] ((0 : Nat) : Int) = a := rfl
      rw [e, decide_eq_false (by omega), decide_eq_false (by omega)]; rfl
    · have e : rd [a, b] ((1 : Nat) : Int) = b := rfl
      rw [e, decide_eq_false (by omega), decide_eq_false (by omega)]; rfl
def fitsB (t : Types) (e a b : Int) : Bool := isB t.fNodes a (rd t.fEdges e).fFrom && isB t.fNodes b (rd t.fEdges e).fTo
theorem Fits_eq {k : Nat} (hk : 200 ≤ k) {t : Types} (ht : FewT t) (hv : validS t = 0) {e a b : Int} (e0 : 0 ≤ e) (e1 : e < (t.fEdges.length : Int)) (h0 : 0 ≤ a) (ha : a < (t.fNodes.length : Int)) (g0 : 0 ≤ b) (gb : b < (t.fNodes.length : Int)) :
    types_Fits k t e a b = some (fitsB t e a b) := by
  obtain ⟨w, h12, _⟩ := valid_wf hv
  unfold types_Fits fitsB jn; dsimp only
  rw [types_given2_eq hk ht hv h0 ha g0 gb, Option.bind_some, bne_self_eq_false, cond_false, decide_eq_false (show ¬ e < 0 by omega), cond_false, decide_eq_false (show ¬ e ≥ (t.fEdges.length : Int) by omega), cond_false, gd ⟨e0, e1⟩, types_is_eq hk w (by omega) ha, Option.bind_some]
  cases isB t.fNodes a (rd t.fEdges e).fFrom with
  | false => rfl
  | true => rw [cond_true, gd ⟨e0, e1⟩, types_is_eq hk w (by omega) gb]; rfl
theorem ref_Fits_eq {k : Nat} (hk : 200 ≤ k) {t : Types} (ht : FewT t) (hv : validS t = 0) {e a b : Int} (e0 : 0 ≤ e) (e1 : e < (t.fEdges.length : Int)) (h0 : 0 ≤ a) (ha : a < (t.fNodes.length : Int)) (g0 : 0 ≤ b) (gb : b < (t.fNodes.length : Int)) :
    ref04_Fits k t e a b = some (fitsB t e a b) := by
  obtain ⟨w, h12, h20⟩ := valid_wf hv
  have hE := valid_edge hv (j := e.toNat) (by omega)
  rw [Int.toNat_of_nonneg e0] at hE
  have f1 := insB_range hE.1; have f2 := insB_range hE.2
  unfold ref04_Fits fitsB jn; dsimp only
  rw [ref04_given_eq hk ht hv h0 ha g0 gb, Option.bind_some, bne_self_eq_false, cond_false, gd (inR_of (by omega)), ref04_in_eq, Option.bind_some, decide_eq_true (show e ≥ 0 by omega), decide_eq_true (show e ≤ (t.fEdges.length : Int) - 1 by omega), Bool.and_true, Bool.not_true, cond_false, gd ⟨e0, e1⟩,
    ref04_Below1_eq hk w (by omega) h0 ha f1.1, Option.bind_some]
  cases isB t.fNodes a (rd t.fEdges e).fFrom with
  | false => rfl
  | true => rw [cond_true, gd ⟨e0, e1⟩, ref04_Below1_eq hk w (by omega) g0 gb f2.1]; rfl
def outB (l : List Attr) (vs : List Int) (i : Nat) : Bool := decide (rd vs (i : Int) < (rd l (i : Int)).fLow) || decide (rd vs (i : Int) > (rd l (i : Int)).fHigh)
def nodeV (t : Types) (kind : Int) (vs : List Int) : Int :=
  bif decide (kind ≥ (t.fNodes.length : Int)) then 6 else bif (rd t.fNodes kind).fAbstract then 13 else bif ((vs.length : Int) != ((attrsS t.fNodes t.fNodes.length kind).length : Int)) then 20
  else bif anyN (outB (attrsS t.fNodes t.fNodes.length kind) vs) 0 (attrsS t.fNodes t.fNodes.length kind).length then 6 else 0
theorem node_eq {k : Nat} (hk : 1000 ≤ k) {t : Types} (ht : FewT t) (hv : validS t = 0) {a : Int} (h0 : 0 ≤ a) (vs : List Int) : host_node k t a vs = some (nodeV t a vs) := by
  obtain ⟨w, h12, _⟩ := valid_wf hv
  unfold host_node nodeV
  by_cases c : a ≥ (t.fNodes.length : Int)
  · rw [decide_eq_true c]; rfl
  · have ha : a < (t.fNodes.length : Int) := by omega
    have hl := attrsS_len w (fun x hx => ht.nattr x hx) t.fNodes.length a ha
    rw [decide_eq_false c, cond_false, cond_false, gd ⟨h0, ha⟩, Attrs_eq hk ht hv h0 ha, Option.bind_some]
    cases (rd t.fNodes a).fAbstract with
    | true => rfl
    | false =>
      rw [cond_false, cond_false]
      generalize attrsS t.fNodes t.fNodes.length a = l at *
      cases c2 : ((vs.length : Int) != (l.length : Int)) with
      | true => rfl
      | false =>
        have c2' : (vs.length : Int) = (l.length : Int) := by simpa using c2
        rw [cond_false, cond_false]
        refine loop1_eq (fun i => bif anyN (outB l vs) i l.length then 6 else 0) l.length (fun rec => ?_) (fun i hi rec ih => ?_) (k := k) (i := 0) (Nat.zero_le _) (by omega)
        · rw [host_node.b0, decide_eq_false (show ¬ (l.length : Int) < (l.length : Int) by omega), cond_false, anyN_end]; rfl
        · rw [host_node.b0]; unfold jn; dsimp only
          rw [decide_eq_true (show (i : Int) < (l.length : Int) by omega), cond_true, gd ⟨by omega, by omega⟩, gd (show (0 : Int) ≤ (i : Int) ∧ (i : Int) < (vs.length : Int) by omega), gd (inR_nat (n := i) (by omega)), ih, anyN_step hi, outB]
          cases decide (rd vs (i : Int) < (rd l (i : Int)).fLow) with
          | true => rfl
          | false => rw [cond_false, gd (show (0 : Int) ≤ (i : Int) ∧ (i : Int) < (vs.length : Int) by omega)]; cases decide (rd vs (i : Int) > (rd l (i : Int)).fHigh) <;> rfl
theorem ref_node_eq {k : Nat} (hk : 1000 ≤ k) {t : Types} (ht : FewT t) (hv : validS t = 0) {a : Int} (h0 : 0 ≤ a) (vs : List Int) : ref15_node k t a vs = some (nodeV t a vs) := by
  obtain ⟨w, h12, _⟩ := valid_wf hv
  unfold ref15_node nodeV
  by_cases c : a ≥ (t.fNodes.length : Int)
  · rw [decide_eq_true c]; rfl
  · have ha : a < (t.fNodes.length : Int) := by omega
    have hl := attrsS_len w (fun x hx => ht.nattr x hx) t.fNodes.length a ha
    rw [decide_eq_false c, cond_false, cond_false, gd ⟨h0, ha⟩, ref04_Attrs_eq hk ht hv h0 ha, Option.bind_some]
    cases (rd t.fNodes a).fAbstract with
    | true => rfl
    | false =>
      rw [cond_false, cond_false]
      generalize attrsS t.fNodes t.fNodes.length a = l at *
      cases c2 : ((vs.length : Int) != (l.length : Int)) with
      | true => rfl
      | false =>
        have c2' : (vs.length : Int) = (l.length : Int) := by simpa using c2
        have gv : ∀ i, i < l.length → (0 : Int) ≤ (i : Int) ∧ (i : Int) < (vs.length : Int) := fun i hi => by omega
        have gl : ∀ i, i < l.length → (0 : Int) ≤ (i : Int) ∧ (i : Int) < (l.length : Int) := fun i hi => by omega
        rw [cond_false, cond_false]
        refine loop1_eq (fun i => bif anyN (outB l vs) i l.length then 6 else 0) l.length (fun rec => ?_) (fun i hi rec ih => ?_) (k := k) (i := 0) (Nat.zero_le _) (by omega)
        · rw [ref15_node.b0, decide_eq_false (show ¬ (l.length : Int) < (l.length : Int) by omega), cond_false, anyN_end]; rfl
        · rw [ref15_node.b0]; unfold jn; dsimp only
          rw [decide_eq_true (show (i : Int) < (l.length : Int) by omega), cond_true, gd (gv i hi), gd (gl i hi), gd (inR_nat (n := i) (by omega)), ih, anyN_step hi, outB]
          cases decide (rd vs (i : Int) < (rd l (i : Int)).fLow) with
          | true => rfl
          | false => rw [cond_false, gd (gv i hi), gd (gl i hi)]; cases decide (rd vs (i : Int) > (rd l (i : Int)).fHigh) <;> rfl
end Go.Proofs.YthmdmchmmgmblaaGreat

namespace Go.Proofs.YthmdmchmmgmblaaGreat
open Go Go.Abs

def edgeV (t : Types) (g : Graph) (i : Nat) : Int :=
  bif decide ((rd g.fEdges (i : Int)).fType ≥ (t.fEdges.length : Int)) then 6 else bif fitsB t (rd g.fEdges (i : Int)).fType (rd g.fNodes (rd g.fEdges (i : Int)).fFrom) (rd g.fNodes (rd g.fEdges (i : Int)).fTo) then 0 else 13
def hostN (t : Types) (h : Host) (i : Nat) : Int × Int := first (fun i => nodeV t (rd h.fGraph.fNodes (i : Int)) (rd h.fValues (i : Int))) (first (edgeV t h.fGraph) (-1, 0) 0 h.fGraph.fEdges.length) i h.fGraph.fNodes.length
def hostV (t : Types) (h : Host) : Int × Int :=
  bif validS t != 0 then (-1, validS t) else bif graphErr h.fGraph != 0 then (-1, graphErr h.fGraph) else bif ((h.fValues.length : Int) != (h.fGraph.fNodes.length : Int)) then (-1, 20) else hostN t h 0
/-- No node is wrong: all nodes have a type. -/
theorem nodes_typed {t : Types} {h : Host} {n : Nat} (hk : ∀ i, i < n → nodeV t (rd h.fGraph.fNodes (i : Int)) (rd h.fValues (i : Int)) = 0) : ∀ i, i < n → rd h.fGraph.fNodes (i : Int) < (t.fNodes.length : Int) := fun i hi => by
  have := hk i hi
  unfold nodeV at this
  by_cases c : rd h.fGraph.fNodes (i : Int) ≥ (t.fNodes.length : Int)
  · rw [decide_eq_true c] at this; cases this
  · omega
theorem host_edges {k : Nat} (hk : 1000 ≤ k) {t : Types} {h : Host} (ht : FewT t) (hv : validS t = 0) (hg : GoodG h.fGraph) (hn : ∀ i, i < h.fGraph.fNodes.length → rd h.fGraph.fNodes (i : Int) < (t.fNodes.length : Int)) :
    loop1 k (host_Valid.b1 k t h) 0 = some (first (edgeV t h.fGraph) (-1, 0) 0 h.fGraph.fEdges.length) ∧ loop1 k (ref15_Valid.b1 k t h) 0 = some (first (edgeV t h.fGraph) (-1, 0) 0 h.fGraph.fEdges.length) := by
  have h1 := hg.nodes; have h2 := hg.edges
  have nd : ∀ x : Int, 0 ≤ x → x < (h.fGraph.fNodes.length : Int) → 0 ≤ rd h.fGraph.fNodes x ∧ rd h.fGraph.fNodes x < (t.fNodes.length : Int) := fun x x0 x1 => by
    have a := (hg.kind x.toNat (by omega)).1; have b := hn x.toNat (by omega)
    rw [Int.toNat_of_nonneg x0] at a b
    exact ⟨a, b⟩
  constructor
  · refine loop1_eq (fun i => first (edgeV t h.fGraph) (-1, 0) i h.fGraph.fEdges.length) h.fGraph.fEdges.length (fun rec => ?_) (fun i hi rec ih => ?_) (k := k) (i := 0) (Nat.zero_le _) (by omega)
    · rw [host_Valid.b1, decide_eq_false (show ¬ (h.fGraph.fEdges.length : Int) < (h.fGraph.fEdges.length : Int) by omega), cond_false, first_end]
    · obtain ⟨r0, ⟨r1, r2⟩, r3, r4⟩ := hg.right i hi
      have n1 := nd _ r1 r2; have n2 := nd _ r3 r4
      rw [host_Valid.b1, decide_eq_true (show (i : Int) < (h.fGraph.fEdges.length : Int) by omega), cond_true, gd ⟨by omega, by omega⟩, first_step hi, edgeV]
      by_cases c : (rd h.fGraph.fEdges (i : Int)).fType ≥ (t.fEdges.length : Int)
      · rw [decide_eq_true c]; rfl
      · rw [decide_eq_false c, cond_false, gd ⟨r1, r2⟩, gd ⟨r3, r4⟩, Fits_eq (by omega) ht hv r0 (by omega) n1.1 n1.2 n2.1 n2.2, Option.bind_some, gd (inR_nat (n := i) (by omega)), ih, cond_false]
        cases fitsB t (rd h.fGraph.fEdges (i : Int)).fType (rd h.fGraph.fNodes (rd h.fGraph.fEdges (i : Int)).fFrom) (rd h.fGraph.fNodes (rd h.fGraph.fEdges (i : Int)).fTo) <;> rfl
  · refine loop1_eq (fun i => first (edgeV t h.fGraph) (-1, 0) i h.fGraph.fEdges.length) h.fGraph.fEdges.length (fun rec => ?_) (fun i hi rec ih => ?_) (k := k) (i := 0) (Nat.zero_le _) (by omega)
    · rw [ref15_Valid.b1, decide_eq_false (show ¬ (h.fGraph.fEdges.length : Int) < (h.fGraph.fEdges.length : Int) by omega), cond_false, first_end]
    · obtain ⟨r0, ⟨r1, r2⟩, r3, r4⟩ := hg.right i hi
      have n1 := nd _ r1 r2; have n2 := nd _ r3 r4
      rw [ref15_Valid.b1, decide_eq_true (show (i : Int) < (h.fGraph.fEdges.length : Int) by omega), cond_true, gd ⟨by omega, by omega⟩, first_step hi, edgeV]
      by_cases c : (rd h.fGraph.fEdges (i : Int)).fType ≥ (t.fEdges.length : Int)
      · rw [decide_eq_true c]; rfl
      · rw [decide_eq_false c, cond_false, gd ⟨r1, r2⟩, gd ⟨r3, r4⟩, ref_Fits_eq (by omega) ht hv r0 (by omega) n1.1 n1.2 n2.1 n2.2, Option.bind_some, gd (inR_nat (n := i) (by omega)), ih, cond_false]
        cases fitsB t (rd h.fGraph.fEdges (i : Int)).fType (rd h.fGraph.fNodes (rd h.fGraph.fEdges (i : Int)).fFrom) (rd h.fGraph.fNodes (rd h.fGraph.fEdges (i : Int)).fTo) <;> rfl
theorem host_nodes {k : Nat} (hk : 1000 ≤ k) {t : Types} {h : Host} (ht : FewT t) (hv : validS t = 0) (hg : GoodG h.fGraph) (hl : h.fValues.length = h.fGraph.fNodes.length) :
    loop1 k (host_Valid.b0 k t h) 0 = some (hostN t h 0) ∧ loop1 k (ref15_Valid.b0 k t h) 0 = some (hostN t h 0) := by
  have h1 := hg.nodes; have h2 := hg.edges
  constructor
  · refine Out.eq (loop1_out (I := fun i => ∀ j, j < i → nodeV t (rd h.fGraph.fNodes (j : Int)) (rd h.fValues (j : Int)) = 0) (P := fun i r => r = hostN t h i) h.fGraph.fNodes.length (fun hI rec => ?_) (fun i hi hI rec ih => ?_) k 0 (Nat.zero_le _) (by omega) (fun j hj => by omega))
    · rw [host_Valid.b0, decide_eq_false (show ¬ (h.fGraph.fNodes.length : Int) < (h.fGraph.fNodes.length : Int) by omega), cond_false, (host_edges hk ht hv hg (nodes_typed hI)).1, hostN, first_end]
      exact ⟨_, rfl, rfl⟩
    · have r0 := (hg.kind i hi).1
      rw [host_Valid.b0, decide_eq_true (show (i : Int) < (h.fGraph.fNodes.length : Int) by omega), cond_true, gd ⟨by omega, by omega⟩, gd ⟨by omega, by omega⟩, node_eq hk ht hv r0, Option.bind_some, gd (inR_nat (n := i) (by omega)), hostN, first_step hi]
      cases c : (nodeV t (rd h.fGraph.fNodes (i : Int)) (rd h.fValues (i : Int)) != 0) with
      | true => exact ⟨_, rfl, rfl⟩
      | false =>
        refine ih fun j hj => ?_
        rcases Nat.lt_succ_iff_lt_or_eq.1 hj with hj | rfl
        · exact hI j hj
        · simpa using c
  · refine Out.eq (loop1_out (I := fun i => ∀ j, j < i → nodeV t (rd h.fGraph.fNodes (j : Int)) (rd h.fValues (j : Int)) = 0) (P := fun i r => r = hostN t h i) h.fGraph.fNodes.length (fun hI rec => ?_) (fun i hi hI rec ih => ?_) k 0 (Nat.zero_le _) (by omega) (fun j hj => by omega))
    · rw [ref15_Valid.b0, decide_eq_false (show ¬ (h.fGraph.fNodes.length : Int) < (h.fGraph.fNodes.length : Int) by omega), cond_false, (host_edges hk ht hv hg (nodes_typed hI)).2, hostN, first_end]
      exact ⟨_, rfl, rfl⟩
    · have r0 := (hg.kind i hi).1
      rw [ref15_Valid.b0, decide_eq_true (show (i : Int) < (h.fGraph.fNodes.length : Int) by omega), cond_true, gd ⟨by omega, by omega⟩, gd ⟨by omega, by omega⟩, ref_node_eq hk ht hv r0, Option.bind_some, gd (inR_nat (n := i) (by omega)), hostN, first_step hi]
      cases c : (nodeV t (rd h.fGraph.fNodes (i : Int)) (rd h.fValues (i : Int)) != 0) with
      | true => exact ⟨_, rfl, rfl⟩
      | false =>
        refine ih fun j hj => ?_
        rcases Nat.lt_succ_iff_lt_or_eq.1 hj with hj | rfl
        · exact hI j hj
        · simpa using c
theorem host_valid_eq {k : Nat} (hk : 1000 ≤ k) {t : Types} {h : Host} (ht : FewT t) (hh : FewG h.fGraph) : Out (host_Valid k t h) (fun r => r.2 = (hostV t h).2 ∧ (validS t = 0 → r = hostV t h)) ∧ Out (ref15_Valid k t h) (fun r => r.2 = (hostV t h).2 ∧ (validS t = 0 → r = hostV t h)) := by
  obtain ⟨r, e, hr⟩ := types_Valid_out (k := k) (by omega) ht
  obtain ⟨r', e', hr'⟩ := ref04_Valid_out (k := k) (by omega) ht
  unfold host_Valid ref15_Valid hostV
  rw [e, Option.bind_some, hr, e', Option.bind_some, hr']
  cases hv : (validS t != 0) with
  | true => exact ⟨⟨_, rfl, rfl, fun h => by rw [h] at hv; cases hv⟩, ⟨_, rfl, rfl, fun h => by rw [h] at hv; cases hv⟩⟩
  | false =>
    have hv' : validS t = 0 := by simpa using hv
    rw [cond_false, cond_false, cond_false, graph_Valid_eq (by omega) hh, ref05_Valid_eq (by omega) hh, Option.bind_some, Option.bind_some]
    cases hg : (graphErr h.fGraph != 0) with
    | true => exact ⟨⟨_, rfl, rfl, fun _ => rfl⟩, ⟨_, rfl, rfl, fun _ => rfl⟩⟩
    | false =>
      have good := graphErr_good (show graphErr h.fGraph = 0 by simpa using hg)
      rw [cond_false, cond_false, cond_false]
      cases hl : ((h.fValues.length : Int) != (h.fGraph.fNodes.length : Int)) with
      | true => exact ⟨⟨_, rfl, rfl, fun _ => rfl⟩, ⟨_, rfl, rfl, fun _ => rfl⟩⟩
      | false =>
        have hl' : h.fValues.length = h.fGraph.fNodes.length := by have : (h.fValues.length : Int) = (h.fGraph.fNodes.length : Int) := by simpa using hl
                                                                   omega
        obtain ⟨p, q⟩ := host_nodes hk ht hv' good hl'
        rw [cond_false, cond_false, cond_false, p, q]
        exact ⟨⟨_, rfl, rfl, fun _ => rfl⟩, ⟨_, rfl, rfl, fun _ => rfl⟩⟩
end Go.Proofs.YthmdmchmmgmblaaGreat

namespace Go.Proofs.YthmdmchmmgmblaaGreat
open Go Go.Abs

structure FewH (h : Host) : Prop where
  graph : FewG h.fGraph
  len : h.fValues.length ≤ 45
  each : ∀ j : Nat, j < h.fValues.length → (rd h.fValues (j : Int)).length ≤ 12
end Go.Proofs.YthmdmchmmgmblaaGreat

namespace Go.Proofs.YthmdmchmmgmblaaGreat
open Go Go.Abs

def Bnd (x : Attr) : Prop := -1000000 ≤ x.fLow ∧ x.fHigh ≤ 1000000
theorem own_bounds {x : Attr} (h : attrOwn x = 0) : Bnd x := by
  unfold attrOwn at h
  cases h0 : (namesS x.fNames != 0) with
  | true => rw [h0, cond_true] at h; rw [h] at h0; cases h0
  | false =>
    rw [h0, cond_false] at h
    by_cases c : (x.fNames.length : Int) > 0
    · have hn : x.fNames.length ≤ 20 := by
        by_cases q : (x.fNames.length : Int) > 20
        · unfold namesS at h0; rw [decide_eq_true q] at h0; cases h0
        · omega
      rw [decide_eq_true c, cond_true] at h
      cases h1 : (x.fLow == 0 && x.fHigh == (x.fNames.length : Int) - 1) with
      | false => rw [h1] at h; cases h
      | true =>
        rw [Bool.and_eq_true, beq_iff_eq, beq_iff_eq] at h1
        exact ⟨by omega, by omega⟩
    · rw [decide_eq_false c, cond_false] at h
      cases h1 : (decide (-1000000 ≤ x.fLow) && (decide (x.fLow ≤ x.fHigh) && decide (x.fHigh ≤ 1000000))) with
      | false => rw [h1] at h; cases h
      | true =>
        rw [Bool.and_eq_true, Bool.and_eq_true, decide_eq_true_eq, decide_eq_true_eq, decide_eq_true_eq] at h1
        exact ⟨h1.1, h1.2.2⟩
theorem valid_node {t : Types} (h : validS t = 0) {j : Nat} (hj : j < t.fNodes.length) : nodeErr t j = 0 := by
  unfold validS at h
  cases h0 : ((t.fNodes.length : Int) == 0) with
  | true => rw [h0] at h; cases h
  | false =>
    cases h1 : decide ((t.fNodes.length : Int) > 12) || decide ((t.fEdges.length : Int) > 20) with
    | true => rw [h0, h1] at h; cases h
    | false =>
      rw [h0, h1, cond_false, cond_false] at h
      unfold valid2S at h
      cases h2 : (scan (nodeErr t) 0 t.fNodes.length != 0) with
      | true => rw [h2, cond_true] at h; rw [h] at h2; cases h2
      | false => exact scan_zero (by simpa using h2) j (Nat.zero_le _) hj
theorem node_scan {t : Types} {i : Nat} (h : nodeErr t i = 0) : scan (attrErr (attrsS t.fNodes 100 (i : Int))) ((attrsS t.fNodes 100 (i : Int)).length - (rd t.fNodes (i : Int)).fAttrs.length) (attrsS t.fNodes 100 (i : Int)).length = 0 := by
  unfold nodeErr at h
  cases h1 : isNameB (rd t.fNodes (i : Int)).fName with
  | false => rw [h1] at h; cases h
  | true =>
    cases h2 : anyN (fun j => (rd t.fNodes (j : Int)).fName == (rd t.fNodes (i : Int)).fName) 0 i with
    | true => rw [h1, h2] at h; cases h
    | false =>
      cases h3 : decide ((rd t.fNodes (i : Int)).fParent < -1) || decide ((rd t.fNodes (i : Int)).fParent ≥ (i : Int)) with
      | true => rw [h1, h2, h3] at h; cases h
      | false =>
        cases h4 : decide (((rd t.fNodes (i : Int)).fAttrs.length : Int) > 4) with
        | true => rw [h1, h2, h3, h4] at h; cases h
        | false =>
          cases h5 : decide (((attrsS t.fNodes 100 (i : Int)).length : Int) > 8) with
          | true => rw [h1, h2, h3, h4, h5] at h; cases h
          | false => rw [h1, h2, h3, h4, h5] at h; exact h
theorem rd_append {A B : List Attr} {q : Nat} (hq : q < B.length) : rd (A ++ B) ((A.length + q : Nat) : Int) = B[q] := by
  unfold rd
  rw [Int.toNat_natCast, List.getD_eq_getElem?_getD, List.getElem?_append_right (by omega), Nat.add_sub_cancel_left, List.getElem?_eq_getElem hq]; rfl
theorem node_bounds {t : Types} (h : validS t = 0) : ∀ n ∈ t.fNodes, ∀ x ∈ n.fAttrs, Bnd x := fun n hn x hx => by
  obtain ⟨i, hi, rfl⟩ := List.mem_iff_getElem.1 hn
  obtain ⟨w, h12, _⟩ := valid_wf h
  have er : rd t.fNodes (i : Int) = t.fNodes[i] := by simp [rd, List.getD, List.getElem?_eq_getElem hi]
  obtain ⟨q, hq, rfl⟩ := List.mem_iff_getElem.1 hx
  have hs := node_scan (valid_node h hi)
  rw [er] at hs
  have ea : attrsS t.fNodes 100 (i : Int) = attrsS t.fNodes 99 (rd t.fNodes (i : Int)).fParent ++ t.fNodes[i].fAttrs := by rw [attrsS_pos (by omega), er]
  have hz := scan_zero hs ((attrsS t.fNodes 100 (i : Int)).length - t.fNodes[i].fAttrs.length + q) (by omega) (by rw [ea, List.length_append]; omega)
  have eq : rd (attrsS t.fNodes 100 (i : Int)) (((attrsS t.fNodes 100 (i : Int)).length - t.fNodes[i].fAttrs.length + q : Nat) : Int) = t.fNodes[i].fAttrs[q] := by
    rw [ea, List.length_append]
    have : (attrsS t.fNodes 99 (rd t.fNodes (i : Int)).fParent).length + t.fNodes[i].fAttrs.length - t.fNodes[i].fAttrs.length + q = (attrsS t.fNodes 99 (rd t.fNodes (i : Int)).fParent).length + q := by omega
    rw [this]
    exact rd_append hq
  unfold attrErr at hz
  rw [eq] at hz
  cases h1 : isNameB t.fNodes[i].fAttrs[q].fName with
  | false => rw [h1] at hz; cases hz
  | true =>
    rw [h1, Bool.not_true, cond_false] at hz
    cases h2 : anyN (fun j => (rd (attrsS t.fNodes 100 (i : Int)) (j : Int)).fName == t.fNodes[i].fAttrs[q].fName) 0 ((attrsS t.fNodes 100 (i : Int)).length - t.fNodes[i].fAttrs.length + q) with
    | true => rw [h2] at hz; cases hz
    | false => rw [h2] at hz; exact own_bounds hz
theorem attrs_bounds {t : Types} (h : validS t = 0) {a : Int} (ha : a < (t.fNodes.length : Int)) : ∀ x ∈ attrsS t.fNodes t.fNodes.length a, Bnd x :=
  attrsS_all (valid_wf h).1 (node_bounds h) _ _ ha
end Go.Proofs.YthmdmchmmgmblaaGreat

namespace Go.Proofs.YthmdmchmmgmblaaGreat
open Go Go.Abs

theorem firstF_ok {e : Nat → Int} {z : Int × Int} : ∀ (d i : Nat), (firstF e z i d).2 = 0 → ∀ j, i ≤ j → j < i + d → e j = 0
  | 0, i, _ => fun j h1 h2 => by omega
  | d + 1, i, h => fun j h1 h2 => by
    unfold firstF at h
    cases c : (e i != 0) with
    | true =>
      rw [c, cond_true] at h
      have h' : e i = 0 := h
      rw [h'] at c; cases c
    | false =>
      rw [c, cond_false] at h
      rcases Nat.eq_or_lt_of_le h1 with q | q
      · rw [← q]; simpa using c
      · exact firstF_ok d (i + 1) h j q (by omega)
structure HostOk (t : Types) (h : Host) : Prop where
  val : validS t = 0
  graph : GoodG h.fGraph
  len : h.fValues.length = h.fGraph.fNodes.length
  node : ∀ j, j < h.fGraph.fNodes.length → nodeV t (rd h.fGraph.fNodes (j : Int)) (rd h.fValues (j : Int)) = 0
theorem host_ok {t : Types} {h : Host} (e : (hostV t h).2 = 0) : HostOk t h := by
  unfold hostV at e
  cases h0 : (validS t != 0) with
  | true => rw [h0, cond_true] at e; have e' : validS t = 0 := e; rw [e'] at h0; cases h0
  | false =>
    cases h1 : (graphErr h.fGraph != 0) with
    | true => rw [h0, h1, cond_false, cond_true] at e; have e' : graphErr h.fGraph = 0 := e; rw [e'] at h1; cases h1
    | false =>
      cases h2 : ((h.fValues.length : Int) != (h.fGraph.fNodes.length : Int)) with
      | true => rw [h0, h1, h2] at e; cases e
      | false =>
        rw [h0, h1, h2, cond_false, cond_false, cond_false] at e
        have hl : (h.fValues.length : Int) = (h.fGraph.fNodes.length : Int) := by simpa using h2
        exact ⟨by simpa using h0, graphErr_good (by simpa using h1), by omega, fun j hj => firstF_ok _ _ e j (Nat.zero_le _) (by omega)⟩
theorem node_val {t : Types} {kind : Int} {vs : List Int} (h : nodeV t kind vs = 0) : kind < (t.fNodes.length : Int) ∧ vs.length = (attrsS t.fNodes t.fNodes.length kind).length ∧ ∀ j, j < vs.length → outB (attrsS t.fNodes t.fNodes.length kind) vs j = false := by
  unfold nodeV at h
  by_cases c : kind ≥ (t.fNodes.length : Int)
  · rw [decide_eq_true c] at h; cases h
  · rw [decide_eq_false c, cond_false] at h
    cases h1 : (rd t.fNodes kind).fAbstract with
    | true => rw [h1] at h; cases h
    | false =>
      cases h2 : ((vs.length : Int) != ((attrsS t.fNodes t.fNodes.length kind).length : Int)) with
      | true => rw [h1, h2] at h; cases h
      | false =>
        have hl : (vs.length : Int) = ((attrsS t.fNodes t.fNodes.length kind).length : Int) := by simpa using h2
        cases h3 : anyN (outB (attrsS t.fNodes t.fNodes.length kind) vs) 0 (attrsS t.fNodes t.fNodes.length kind).length with
        | true => rw [h1, h2, h3] at h; cases h
        | false => exact ⟨by omega, by omega, fun j hj => anyN_false h3 j (Nat.zero_le _) (by omega)⟩
end Go.Proofs.YthmdmchmmgmblaaGreat

namespace Go.Proofs.YthmdmchmmgmblaaGreat
open Go Go.Abs

/-- A loop that collects. -/
theorem collect_from {α R : Type} {b : (List α → Int → Option R) → List α → Int → Option R} (f : Nat → List α) (n m L : Nat) (fin : List α → Option R) (hm : ∀ i, i < n → (f i).length ≤ m)
    (hend : ∀ s rec, s.length ≤ L + m * n → b rec s (n : Int) = fin s)
    (hstep : ∀ i, i < n → ∀ (s : List α) (rec : List α → Int → Option R), s.length ≤ L + m * i → b rec s (i : Int) = rec (s ++ f i) ((i : Int) + 1)) :
    ∀ (d k i : Nat) (s : List α), i + d = n → d < k → s.length ≤ L + m * i → loop2 k b s (i : Int) = fin (s ++ (List.range' i d).flatMap f)
  | d, 0, _, _, _, hk, _ => by omega
  | 0, k + 1, i, s, hi, _, hs => by
    obtain rfl : i = n := by omega
    unfold loop2
    rw [hend s _ hs]; simp
  | d + 1, k + 1, i, s, hi, hk, hs => by
    unfold loop2
    rw [hstep i (by omega) s _ hs]
    have h1 := hm i (by omega)
    have := collect_from f n m L fin hm hend hstep d k (i + 1) (s ++ f i) (by omega) (by omega) (by rw [List.length_append, Nat.mul_add]; omega)
    rw [List.append_assoc] at this
    rw [List.range'_succ, List.flatMap_cons]
    exact_mod_cast this
theorem collect_loop {α R : Type} {b : (List α → Int → Option R) → List α → Int → Option R} (f : Nat → List α) (n m : Nat) (fin : List α → Option R) (hm : ∀ i, i < n → (f i).length ≤ m) (s0 : List α)
    (hend : ∀ s rec, s.length ≤ s0.length + m * n → b rec s (n : Int) = fin s)
    (hstep : ∀ i, i < n → ∀ (s : List α) (rec : List α → Int → Option R), s.length ≤ s0.length + m * i → b rec s (i : Int) = rec (s ++ f i) ((i : Int) + 1)) {k : Nat} (hk : n < k) : loop2 k b s0 0 = fin (s0 ++ (List.range n).flatMap f) := by
  have := collect_from f n m s0.length fin hm hend hstep n k 0 s0 (by omega) hk (by omega)
  rw [List.range_eq_range']
  exact this
/-- How many places of a beginning bear a mark. -/
def cntN (p : Nat → Bool) : Nat → Nat
  | 0 => 0
  | n + 1 => cntN p n + (bif p n then 1 else 0)
theorem cntN_le (p : Nat → Bool) : ∀ n, cntN p n ≤ n
  | 0 => Nat.le_refl _
  | n + 1 => by have := cntN_le p n; unfold cntN; cases p n <;> simp <;> omega
theorem count_from {R : Type} {b : (Int → Int → Option R) → Int → Int → Option R} (p : Nat → Bool) (n : Nat) (x : Option R) (hend : ∀ rec, b rec (cntN p n : Int) (n : Int) = x)
    (hstep : ∀ i, i < n → ∀ (c : Nat) (rec : Int → Int → Option R), c ≤ i → b rec (c : Int) (i : Int) = bif p i then rec ((c : Int) + 1) ((i : Int) + 1) else rec (c : Int) ((i : Int) + 1)) :
    ∀ (d k i : Nat), i + d = n → d < k → loop2 k b (cntN p i : Int) (i : Int) = x
  | d, 0, _, _, hk => by omega
  | 0, k + 1, i, hi, _ => by
    obtain rfl : i = n := by omega
    unfold loop2; exact hend _
  | d + 1, k + 1, i, hi, hk => by
    have ih := count_from p n x hend hstep d k (i + 1) (by omega) (by omega)
    unfold loop2
    rw [hstep i (by omega) _ _ (cntN_le p i)]
    unfold cntN at ih
    cases h : p i with
    | true => rw [h] at ih; rw [cond_true]; exact_mod_cast ih
    | false => rw [h] at ih; rw [cond_false]; exact_mod_cast ih
theorem count_loop {R : Type} {b : (Int → Int → Option R) → Int → Int → Option R} (p : Nat → Bool) (n : Nat) (x : Option R) (hend : ∀ rec, b rec (cntN p n : Int) (n : Int) = x)
    (hstep : ∀ i, i < n → ∀ (c : Nat) (rec : Int → Int → Option R), c ≤ i → b rec (c : Int) (i : Int) = bif p i then rec ((c : Int) + 1) ((i : Int) + 1) else rec (c : Int) ((i : Int) + 1)) {k : Nat} (hk : n < k) : loop2 k b 0 0 = x :=
  count_from p n x hend hstep n k 0 (by omega) hk

theorem host_valid2 {k : Nat} (hk : 1000 ≤ k) {t : Types} {h : Host} (ht : FewT t) (hh : FewG h.fGraph) : host_Valid k t h = some (hostV t h) ∧ ref15_Valid k t h = some (hostV t h) := by
  obtain ⟨⟨r, e, h1, h2⟩, ⟨r', e', h1', h2'⟩⟩ := host_valid_eq hk ht hh
  by_cases hv : validS t = 0
  · rw [e, e', h2 hv, h2' hv]; exact ⟨rfl, rfl⟩
  · obtain ⟨q, eq, hq⟩ := types_Valid_out (k := k) (by omega) ht
    obtain ⟨q', eq', hq'⟩ := ref04_Valid_out (k := k) (by omega) ht
    have hb : (validS t != 0) = true := by simpa using hv
    unfold host_Valid ref15_Valid hostV
    rw [eq, eq', Option.bind_some, Option.bind_some, hq, hq', hb]
    exact ⟨rfl, rfl⟩
/-! ### Excesses -/
def endB (g : Graph) (e i : Int) (out : Bool) (j : Nat) : Bool := ((rd g.fEdges (j : Int)).fType == e) && ((out && ((rd g.fEdges (j : Int)).fFrom == i)) || (!out && ((rd g.fEdges (j : Int)).fTo == i)))
def cntE (g : Graph) (e i : Int) (out : Bool) : Nat := cntN (endB g e i out) g.fEdges.length
def excB (low high : Int) (n : Nat) : Bool := decide ((n : Int) < low) || (decide (high ≥ 0) && decide ((n : Int) > high))
def exc1 (t : Types) (h : Host) (e : Int) (out : Bool) (kind low high : Int) (i : Nat) : List Excess :=
  bif isB t.fNodes (rd h.fGraph.fNodes (i : Int)) kind && excB low high (cntE h.fGraph e (i : Int) out) then [Excess.mk e (i : Int) (cntE h.fGraph e (i : Int) out : Int) out] else []
theorem exc1_len {t : Types} {h : Host} {e : Int} {out : Bool} {kind low high : Int} {i : Nat} : (exc1 t h e out kind low high i).length ≤ 1 := by
  unfold exc1
  cases isB t.fNodes (rd h.fGraph.fNodes (i : Int)) kind && excB low high (cntE h.fGraph e (i : Int) out) <;> simp
def excL (t : Types) (h : Host) (e : Int) (out : Bool) (kind low high : Int) : List Excess := (List.range h.fGraph.fNodes.length).flatMap (exc1 t h e out kind low high)
theorem flatMap_len {α : Type} {f : Nat → List α} {m : Nat} : ∀ {l : List Nat}, (∀ i ∈ l, (f i).length ≤ m) → (l.flatMap f).length ≤ m * l.length
  | [], _ => by simp
  | a :: l, h => by
    have h1 := h a (by simp)
    have h2 := flatMap_len (l := l) fun i hi => h i (by simp [hi])
    rw [List.flatMap_cons, List.length_append, List.length_cons, Nat.mul_add]; omega
theorem excL_len {t : Types} {h : Host} {e : Int} {out : Bool} {kind low high : Int} : (excL t h e out kind low high).length ≤ h.fGraph.fNodes.length := by
  have := flatMap_len (f := exc1 t h e out kind low high) (m := 1) (l := List.range h.fGraph.fNodes.length) fun i _ => exc1_len
  rw [List.length_range] at this
  unfold excL; omega
theorem types_Is_eq {k : Nat} (hk : 200 ≤ k) {t : Types} (ht : FewT t) (hv : validS t = 0) {a b : Int} (h0 : 0 ≤ a) (ha : a < (t.fNodes.length : Int)) (g0 : 0 ≤ b) (gb : b < (t.fNodes.length : Int)) : types_Is k t a b = some (isB t.fNodes a b) := by
  obtain ⟨w, h12, _⟩ := valid_wf hv
  unfold types_Is jn; dsimp only
  rw [types_given2_eq hk ht hv h0 ha g0 gb, Option.bind_some, beq_self_eq_true, cond_true, types_is_eq hk w (by omega) ha, Option.bind_some]
structure Able (t : Types) (h : Host) : Prop where
  ty : FewT t
  ho : FewH h
  ok : HostOk t h
theorem Able.kind {t : Types} {h : Host} (a : Able t h) {i : Nat} (hi : i < h.fGraph.fNodes.length) : 0 ≤ rd h.fGraph.fNodes (i : Int) ∧ rd h.fGraph.fNodes (i : Int) < (t.fNodes.length : Int) :=
  ⟨(a.ok.graph.kind i hi).1, (node_val (a.ok.node i hi)).1⟩
theorem or_cases {R : Type} (f : Bool → Option R) (a b c : Bool) : (bif a then f true else bif b then f c else f false) = f (a || (b && c)) := by cases a <;> cases b <;> rfl
theorem end_cases {R : Type} (f : Bool → Option R) (a o x y : Bool) : (bif a then (bif o then (bif x then f true else bif (!o) then f y else f false) else (bif (!o) then f y else f false)) else f false) = f (a && ((o && x) || (!o && y))) := by
  cases a <;> cases o <;> cases x <;> cases y <;> rfl
theorem host_excesses_eq {k : Nat} (hk : 1000 ≤ k) {t : Types} {h : Host} (a : Able t h) {e kind low high : Int} {out : Bool} (k0 : 0 ≤ kind) (k1 : kind < (t.fNodes.length : Int)) :
    host_excesses k t h e out kind low high = some (excL t h e out kind low high) := by
  have h1 := a.ho.graph.nodes; have h2 := a.ho.graph.edges
  unfold host_excesses
  have lm : 1000 ≤ lim := by decide
  rw [collect_loop (exc1 t h e out kind low high) h.fGraph.fNodes.length 1 (fun s => some s) (fun i _ => exc1_len) [] (fun s rec _ => ?_) (fun i hi s rec hs => ?_) (by omega)]
  · rfl
  · rw [host_excesses.b0, decide_eq_false (show ¬ (h.fGraph.fNodes.length : Int) < (h.fGraph.fNodes.length : Int) by omega), cond_false]
  · obtain ⟨n0, n1⟩ := a.kind hi
    rw [host_excesses.b0]; unfold jn; dsimp only
    rw [decide_eq_true (show (i : Int) < (h.fGraph.fNodes.length : Int) by omega), cond_true, gd ⟨by omega, by omega⟩, types_Is_eq (by omega) a.ty a.ok.val n0 n1 k0 k1, Option.bind_some, gd (inR_nat (n := i) (by omega))]
    unfold exc1
    cases hb : isB t.fNodes (rd h.fGraph.fNodes (i : Int)) kind with
    | false => rw [Bool.not_false, cond_true, Bool.false_and, cond_false, List.append_nil]
    | true =>
      rw [Bool.not_true, cond_false, Bool.true_and]
      refine count_loop (endB h.fGraph e (i : Int) out) h.fGraph.fEdges.length _ (fun rec2 => ?_) (fun j hj c rec2 hc => ?_) (by omega)
      · rw [host_excesses.b1]; unfold jn; dsimp only
        rw [decide_eq_false (show ¬ (h.fGraph.fEdges.length : Int) < (h.fGraph.fEdges.length : Int) by omega), cond_false]
        have hl : s.length + [Excess.mk e (i : Int) (cntN (endB h.fGraph e (i : Int) out) h.fGraph.fEdges.length : Int) out].length ≤ lim := by
          rw [List.length_singleton]; simp at hs; omega
        rw [gd hl, gd (inR_nat (n := i) (by omega)), gd (inR_nat (n := i) (by omega))]
        have := or_cases (R := List Excess) (fun q => bif q then rec (s ++ [Excess.mk e (i : Int) (cntN (endB h.fGraph e (i : Int) out) h.fGraph.fEdges.length : Int) out]) ((i : Int) + 1) else rec s ((i : Int) + 1)) (decide ((cntN (endB h.fGraph e (i : Int) out) h.fGraph.fEdges.length : Int) < low)) (decide (high ≥ 0)) (decide ((cntN (endB h.fGraph e (i : Int) out) h.fGraph.fEdges.length : Int) > high))
        simp only [cond_true, cond_false] at this ⊢
        rw [this]
        unfold excB cntE
        cases (decide ((cntN (endB h.fGraph e (i : Int) out) h.fGraph.fEdges.length : Int) < low) || (decide (high ≥ 0) && decide ((cntN (endB h.fGraph e (i : Int) out) h.fGraph.fEdges.length : Int) > high))) with
        | true => rfl
        | false => rw [cond_false, cond_false, List.append_nil]
      · rw [host_excesses.b1]; unfold jn; dsimp only
        rw [decide_eq_true (show (j : Int) < (h.fGraph.fEdges.length : Int) by omega), cond_true, gd ⟨by omega, by omega⟩, gd (inR_nat (n := j) (by omega)), gd (inR_nat (n := c) (by omega)), gd (inR_nat (n := j) (by omega)),
          end_cases (fun q => bif q then rec2 ((c : Int) + 1) ((j : Int) + 1) else rec2 (c : Int) ((j : Int) + 1))]
        rfl
def excA (t : Types) (h : Host) (e : Nat) : List Excess :=
  excL t h (e : Int) true (rd t.fEdges (e : Int)).fFrom (rd t.fEdges (e : Int)).fOutLow (rd t.fEdges (e : Int)).fOutHigh ++ excL t h (e : Int) false (rd t.fEdges (e : Int)).fTo (rd t.fEdges (e : Int)).fInLow (rd t.fEdges (e : Int)).fInHigh
theorem excA_len {t : Types} {h : Host} {e : Nat} : (excA t h e).length ≤ 2 * h.fGraph.fNodes.length := by
  unfold excA
  rw [List.length_append]
  have h1 := excL_len (t := t) (h := h) (e := (e : Int)) (out := true) (kind := (rd t.fEdges (e : Int)).fFrom) (low := (rd t.fEdges (e : Int)).fOutLow) (high := (rd t.fEdges (e : Int)).fOutHigh)
  have h2 := excL_len (t := t) (h := h) (e := (e : Int)) (out := false) (kind := (rd t.fEdges (e : Int)).fTo) (low := (rd t.fEdges (e : Int)).fInLow) (high := (rd t.fEdges (e : Int)).fInHigh)
  omega
def excS (t : Types) (h : Host) : List Excess × Int := bif (hostV t h).2 != 0 then ([], (hostV t h).2) else ((List.range t.fEdges.length).flatMap (excA t h), 0)
theorem Excesses_eq {k : Nat} (hk : 1000 ≤ k) {t : Types} {h : Host} (ht : FewT t) (hh : FewH h) : host_Excesses k t h = some (excS t h) := by
  obtain ⟨v1, -⟩ := host_valid2 hk ht hh.graph
  have h1 := hh.graph.nodes
  unfold host_Excesses host_valid excS
  rw [v1, Option.bind_some, Option.bind_some]
  cases c : ((hostV t h).2 != 0) with
  | true => rfl
  | false =>
    have a : Able t h := ⟨ht, hh, host_ok (by simpa using c)⟩
    have ht2 := ht.edges
    have lm : 10000 ≤ lim := by decide
    rw [cond_false, cond_false, collect_loop (excA t h) t.fEdges.length 90 (fun s => some (s, 0)) (fun i _ => by have := excA_len (t := t) (h := h) (e := i); omega) [] (fun s rec _ => ?_) (fun i hi s rec hs => ?_) (by omega)]
    · rfl
    · rw [host_Excesses.b0, decide_eq_false (show ¬ (t.fEdges.length : Int) < (t.fEdges.length : Int) by omega), cond_false]
    · obtain ⟨i1, i2⟩ := valid_edge a.ok.val hi
      have r1 := insB_range i1; have r2 := insB_range i2
      have l1 := excL_len (t := t) (h := h) (e := (i : Int)) (out := true) (kind := (rd t.fEdges (i : Int)).fFrom) (low := (rd t.fEdges (i : Int)).fOutLow) (high := (rd t.fEdges (i : Int)).fOutHigh)
      have l2 := excL_len (t := t) (h := h) (e := (i : Int)) (out := false) (kind := (rd t.fEdges (i : Int)).fTo) (low := (rd t.fEdges (i : Int)).fInLow) (high := (rd t.fEdges (i : Int)).fInHigh)
      rw [host_Excesses.b0, decide_eq_true (show (i : Int) < (t.fEdges.length : Int) by omega), cond_true, gd ⟨by omega, by omega⟩, host_excesses_eq hk a r1.1 r1.2, Option.bind_some, gd (by simp at hs; omega), host_excesses_eq hk a r2.1 r2.2, Option.bind_some, gd (by simp at hs; rw [List.length_append]; omega), gd (inR_nat (n := i) (by omega)), List.append_assoc]
      rfl
theorem excS_len {t : Types} {h : Host} (ht : FewT t) (hh : FewH h) : (excS t h).1.length ≤ 2700 := by
  have h1 := hh.graph.nodes; have h2 := ht.edges
  unfold excS
  cases ((hostV t h).2 != 0) with
  | true => exact Nat.zero_le _
  | false =>
    have := flatMap_len (f := excA t h) (m := 90) (l := List.range t.fEdges.length) fun i _ => by have := excA_len (t := t) (h := h) (e := i); omega
    rw [List.length_range] at this
    show ((List.range t.fEdges.length).flatMap (excA t h)).length ≤ 2700
    omega
end Go.Proofs.YthmdmchmmgmblaaGreat

namespace Go.Proofs.YthmdmchmmgmblaaGreat
open Go Go.Abs

/-! ### Ascending lists -/
structure AscL (l : List Int) (n : Int) : Prop where
  low : ∀ i, i < l.length → 0 ≤ rd l (i : Int)
  high : ∀ i, i < l.length → rd l (i : Int) < n
  step : ∀ i, i + 1 < l.length → rd l (i : Int) < rd l ((i + 1 : Nat) : Int)
theorem AscL.lt {l : List Int} {n : Int} (h : AscL l n) : ∀ {j i : Nat}, i < j → j < l.length → rd l (i : Int) < rd l (j : Int)
  | 0, i, h1, _ => by omega
  | j + 1, i, h1, h2 => by
    have s := h.step j h2
    rcases Nat.lt_succ_iff_lt_or_eq.1 h1 with q | rfl
    · have := AscL.lt h q (by omega); omega
    · exact s
theorem AscL.ge {l : List Int} {n : Int} (h : AscL l n) : ∀ {i : Nat}, i < l.length → (i : Int) ≤ rd l (i : Int)
  | 0, hi => by have := h.low 0 hi; simpa using this
  | i + 1, hi => by
    have := AscL.ge h (i := i) (by omega)
    have := h.step i hi
    omega
theorem AscL.len {l : List Int} {n : Nat} (h : AscL l (n : Int)) : l.length ≤ n := by
  rcases Nat.eq_zero_or_pos l.length with e | e
  · omega
  · have h1 := h.ge (i := l.length - 1) (by omega)
    have h2 := h.high (l.length - 1) (by omega)
    omega
structure Bin (l : List Int) (x : Int) (r : Int × Bool) : Prop where
  low : 0 ≤ r.1
  high : r.1 ≤ (l.length : Int)
  lt : ∀ j : Nat, (j : Int) < r.1 → rd l (j : Int) < x
  ge : ∀ j : Nat, r.1 ≤ (j : Int) → j < l.length → x ≤ rd l (j : Int)
  found : r.2 = (decide (r.1 < (l.length : Int)) && (rd l r.1 == x))
/-! ### The error of a part -/
structure PartOk (g : Graph) (p : Part) : Prop where
  n : AscL p.fNodes (g.fNodes.length : Int)
  e : AscL p.fEdges (g.fEdges.length : Int)
  from_ : ∀ i, i < p.fEdges.length → (rd g.fEdges (rd p.fEdges (i : Int))).fFrom ∈ p.fNodes
  to_ : ∀ i, i < p.fEdges.length → (rd g.fEdges (rd p.fEdges (i : Int))).fTo ∈ p.fNodes
/-! ### The graph of a part -/
end Go.Proofs.YthmdmchmmgmblaaGreat

namespace Go.Proofs.YthmdmchmmgmblaaGreat
open Go Go.Abs

theorem len_tab {α : Type} (f : Nat → α) (n : Nat) : ((List.range n).flatMap fun i => [f i]).length = n := by
  rw [← List.map_eq_flatMap]; simp
theorem firstF_z {e : Nat → Int} {z : Int × Int} : ∀ (d i : Nat), (∀ j, i ≤ j → j < i + d → e j = 0) → firstF e z i d = z
  | 0, _, _ => rfl
  | d + 1, i, h => by
    unfold firstF
    rw [h i (Nat.le_refl _) (by omega), bne_self_eq_false, cond_false]
    exact firstF_z d (i + 1) fun j h1 h2 => h j (by omega) (by omega)
theorem host_more {t : Types} {h : Host} (e : (hostV t h).2 = 0) : graphErr h.fGraph = 0 ∧ ∀ j, j < h.fGraph.fEdges.length → edgeV t h.fGraph j = 0 := by
  have ok := host_ok e
  unfold hostV at e
  rw [ok.val, bne_self_eq_false, cond_false] at e
  cases h1 : (graphErr h.fGraph != 0) with
  | true => rw [h1, cond_true] at e; have e' : graphErr h.fGraph = 0 := e; rw [e'] at h1; cases h1
  | false =>
    rw [h1, cond_false, ok.len, bne_self_eq_false, cond_false] at e
    unfold hostN first at e
    rw [firstF_z _ _ fun j h1 h2 => ok.node j (by omega)] at e
    exact ⟨by simpa using h1, fun j hj => firstF_ok _ _ e j (Nat.zero_le _) (by omega)⟩
/-! ### The host of a part is a host -/
end Go.Proofs.YthmdmchmmgmblaaGreat

namespace Go.Proofs.YthmdmchmmgmblaaGreat
open Go Go.Abs

theorem loop3_out {S T R : Type} {b : (S → T → Int → Option R) → S → T → Int → Option R} {P : R → Prop} {I : S → T → Nat → Prop} (n : Nat) (hend : ∀ s u, I s u n → ∀ rec, Out (b rec s u (n : Int)) P)
    (hstep : ∀ s u i, i < n → I s u i → ∀ rec : S → T → Int → Option R, (∀ s' u', I s' u' (i + 1) → Out (rec s' u' ((i : Int) + 1)) P) → Out (b rec s u (i : Int)) P) :
    ∀ (k i : Nat) (s : S) (u : T), i ≤ n → n < k + i → I s u i → Out (loop3 k b s u (i : Int)) P
  | 0, i, s, u, h, hk, _ => by omega
  | k + 1, i, s, u, h, hk, hi => by
    rcases Nat.lt_or_ge i n with hl | hl
    · refine hstep s u i hl hi _ fun s' u' hI => ?_
      have := loop3_out n hend hstep k (i + 1) s' u' hl (by omega) hI
      simpa using this
    · have : i = n := by omega
      subst this
      exact hend s u hi _
def Byte (x : Int) : Prop := 0 ≤ x ∧ x ≤ 255
theorem wrap_byte {x : Int} (h : Byte x) : IntKind.i64.wrap x = x := wrap_inR ⟨by have := h.1; omega, by have := h.2; omega⟩
theorem tmod_in {a b : Int} (h0 : 0 ≤ a) (hb : 0 < b) : 0 ≤ a.tmod b ∧ a.tmod b < b := by
  rw [Int.tmod_eq_emod_of_nonneg h0]
  exact ⟨Int.emod_nonneg _ (by omega), Int.emod_lt_of_pos _ hb⟩
structure BytesD (d : Draft) : Prop where
  n : ∀ x ∈ d.fNodes, Byte x.e0 ∧ Byte x.e1
  e : ∀ x ∈ d.fEdges, Byte x.e0 ∧ Byte x.e1 ∧ Byte x.e2
/-- What a host needs, told part by part. -/
structure HostP (t : Types) (g : Graph) (vs : List (List Int)) : Prop where
  n8 : g.fNodes.length ≤ 8
  e10 : g.fEdges.length ≤ 10
  len : vs.length = g.fNodes.length
  kind : ∀ j : Nat, j < g.fNodes.length → 0 ≤ rd g.fNodes (j : Int)
  node : ∀ j : Nat, j < g.fNodes.length → nodeV t (rd g.fNodes (j : Int)) (rd vs (j : Int)) = 0
  edge : ∀ x ∈ g.fEdges, (0 ≤ x.fType ∧ x.fType < (t.fEdges.length : Int)) ∧ (0 ≤ x.fFrom ∧ x.fFrom < (g.fNodes.length : Int)) ∧ (0 ≤ x.fTo ∧ x.fTo < (g.fNodes.length : Int)) ∧ fitsB t x.fType (rd g.fNodes x.fFrom) (rd g.fNodes x.fTo) = true
theorem HostP.ok {t : Types} {g : Graph} {vs : List (List Int)} (hv : validS t = 0) (h : HostP t g vs) : hostV t (Host.mk g vs) = (-1, 0) := by
  obtain ⟨w, h12, h20⟩ := valid_wf hv
  have n8 := h.n8; have e10 := h.e10
  have ke : ∀ j : Nat, j < g.fEdges.length → _ := fun j hj => h.edge _ (rd_mem (l := g.fEdges) (x := (j : Int)) (by omega) (by omega))
  have good : GoodG g := ⟨by omega, by omega, fun j hj => ⟨h.kind j hj, by have := (node_val (h.node j hj)).1; omega⟩, fun j hj => ⟨(ke j hj).1.1, (ke j hj).2.1, (ke j hj).2.2.1⟩⟩
  have err : graphErr g = 0 := good_graphErr good fun j hj => by have := (ke j hj).1.2; omega
  unfold hostV
  dsimp only
  rw [hv, bne_self_eq_false, cond_false, err, bne_self_eq_false, cond_false, h.len, bne_self_eq_false, cond_false]
  unfold hostN first
  dsimp only
  rw [firstF_z, firstF_z]
  · intro j _ hj
    have hj' : j < g.fEdges.length := by omega
    obtain ⟨⟨a1, a2⟩, -, -, a3⟩ := ke j hj'
    unfold edgeV
    rw [decide_eq_false (by omega), cond_false, a3, cond_true]
  · intro j _ hj
    exact h.node j (by omega)
theorem HostP.few {t : Types} {g : Graph} {vs : List (List Int)} (ht : FewT t) (hv : validS t = 0) (h : HostP t g vs) (ha : ∀ a, (attrsS t.fNodes t.fNodes.length a).length ≤ 12) : FewH (Host.mk g vs) := by
  have n8 := h.n8; have e10 := h.e10; have hl := h.len
  exact ⟨⟨by show g.fNodes.length ≤ 45; omega, by show g.fEdges.length ≤ 90; omega⟩, by show vs.length ≤ 45; omega, fun j hj => by
    have hj' : j < g.fNodes.length := by have : j < vs.length := hj; omega
    have := (node_val (h.node j hj')).2.1
    have := ha (rd g.fNodes (j : Int))
    show (rd vs (j : Int)).length ≤ 12
    omega⟩
theorem concrete_out {k : Nat} (hk : 1000 ≤ k) {t : Types} (ht : FewT t) : Out (ref15_concrete k t) (fun l => l.length ≤ 20 ∧ ∀ x ∈ l, 0 ≤ x ∧ x < (t.fNodes.length : Int) ∧ (rd t.fNodes x).fAbstract = false) := by
  have h20 := ht.nodes
  have lm : 1000 ≤ lim := by decide
  refine loop2_out (I := fun (l : List Int) (i : Nat) => l.length ≤ i ∧ ∀ x ∈ l, 0 ≤ x ∧ x < (t.fNodes.length : Int) ∧ (rd t.fNodes x).fAbstract = false) (P := fun _ _ (l : List Int) => l.length ≤ 20 ∧ ∀ x ∈ l, 0 ≤ x ∧ x < (t.fNodes.length : Int) ∧ (rd t.fNodes x).fAbstract = false) t.fNodes.length (fun s hs rec => ?_) (fun s i hi hs rec ih => ?_) k 0 [] (Nat.zero_le _) (by omega) ⟨Nat.le_refl _, by simp⟩
  · rw [ref15_concrete.b0, decide_eq_false (show ¬ (t.fNodes.length : Int) < (t.fNodes.length : Int) by omega), cond_false]
    exact ⟨s, rfl, by omega, hs.2⟩
  · obtain ⟨h1, h2⟩ := hs
    rw [ref15_concrete.b0, decide_eq_true (show (i : Int) < (t.fNodes.length : Int) by omega), cond_true, gd ⟨by omega, by omega⟩, gd (by rw [List.length_singleton]; omega), gd (inR_nat (n := i) (by omega)), gd (inR_nat (n := i) (by omega))]
    cases c : (rd t.fNodes (i : Int)).fAbstract with
    | true => rw [Bool.not_true, cond_false]; exact ih s ⟨by omega, h2⟩
    | false =>
      rw [Bool.not_false, cond_true]
      refine ih _ ⟨by rw [List.length_append, List.length_singleton]; omega, fun x hx => ?_⟩
      rcases List.mem_append.1 hx with q | q
      · exact h2 x q
      · rw [List.mem_singleton] at q; subst q
        exact ⟨by omega, by omega, c⟩
theorem rd_snoc {α : Type} [Inhabited α] {l : List α} {v : α} {j : Nat} (hj : j < l.length + 1) : rd (l ++ [v]) (j : Int) = if j < l.length then rd l (j : Int) else v := by
  by_cases c : j < l.length
  · rw [if_pos c, rd_append_lt (by omega) (by omega)]
  · have e : j = l.length := by omega
    rw [if_neg c, e, rd_append_eq]
/-- The edges of a draft. -/
theorem made_edges {k : Nat} (hk : 1000 ≤ k) {t : Types} (ht : FewT t) (hv : validS t = 0) {d : Draft} (hd : BytesD d) {y0 : List Int} {y2 : List (List Int)} (h8 : y0.length ≤ 8) (hl : y2.length = y0.length) (hkd : ∀ j : Nat, j < y0.length → 0 ≤ rd y0 (j : Int)) (hnd : ∀ j : Nat, j < y0.length → nodeV t (rd y0 (j : Int)) (rd y2 (j : Int)) = 0) :
    Out (loop2 k (ref15_Made.b2 k t d y0 y2) [] 0) (fun h => HostP t h.fGraph h.fValues) := by
  have lm : 1000 ≤ lim := by decide
  obtain ⟨w, h12, h20⟩ := valid_wf hv
  let n := if 0 < y0.length ∧ 0 < t.fEdges.length then min d.fEdges.length 10 else 0
  have hn10 : n ≤ 10 := by
    show (if 0 < y0.length ∧ 0 < t.fEdges.length then min d.fEdges.length 10 else 0) ≤ 10
    split
    · exact Nat.min_le_right _ _
    · exact Nat.zero_le _
  have hlt : ∀ i, i < n → i < d.fEdges.length ∧ i < 10 ∧ 0 < y0.length ∧ 0 < t.fEdges.length := fun i hi => by
    have hi : i < if 0 < y0.length ∧ 0 < t.fEdges.length then min d.fEdges.length 10 else 0 := hi
    split at hi
    · rename_i q; exact ⟨by omega, by omega, q.1, q.2⟩
    · omega
  have hge : n < d.fEdges.length → n < 10 → 0 < y0.length → 0 < t.fEdges.length → False := fun a b c e => by
    have hn : n = if 0 < y0.length ∧ 0 < t.fEdges.length then min d.fEdges.length 10 else 0 := rfl
    rw [if_pos ⟨c, e⟩] at hn
    omega
  refine loop2_out (I := fun (l : List Edge) (i : Nat) => l.length ≤ i ∧ HostP t (Graph.mk y0 l) y2) (P := fun _ _ (h : Host) => HostP t h.fGraph h.fValues) n (fun s hs rec => ?_) (fun s i hi hs rec ih => ?_) k 0 [] (Nat.zero_le _) (by omega) ⟨Nat.le_refl _, h8, by simp, hl, hkd, hnd, by simp⟩
  · rw [ref15_Made.b2]; unfold jn; dsimp only
    have fin : Out (some (Host.mk (Graph.mk y0 s) y2)) (fun h => HostP t h.fGraph h.fValues) := ⟨_, rfl, hs.2⟩
    by_cases c1 : (n : Int) < (d.fEdges.length : Int)
    · rw [decide_eq_true c1, cond_true]
      by_cases c2 : (n : Int) < 10
      · rw [decide_eq_true c2, cond_true]
        by_cases c3 : (y0.length : Int) > 0
        · rw [decide_eq_true c3, cond_true]
          by_cases c4 : (t.fEdges.length : Int) > 0
          · exact (hge (by omega) (by omega) (by omega) (by omega)).elim
          · rw [decide_eq_false c4, cond_false]; exact fin
        · rw [decide_eq_false c3, cond_false, cond_false]; exact fin
      · rw [decide_eq_false c2, cond_false, cond_false]; exact fin
    · rw [decide_eq_false c1, cond_false, cond_false]; exact fin
  · obtain ⟨q1, q2, q3, q4⟩ := hlt i hi
    obtain ⟨hsl, hp⟩ := hs
    obtain ⟨b0, b1, b2⟩ := hd.e _ (rd_mem (l := d.fEdges) (x := (i : Int)) (by omega) (by omega))
    have m0 := tmod_in b0.1 (show (0 : Int) < (t.fEdges.length : Int) by omega)
    have m1 := tmod_in b1.1 (show (0 : Int) < (y0.length : Int) by omega)
    have m2 := tmod_in b2.1 (show (0 : Int) < (y0.length : Int) by omega)
    have kk : ∀ x : Int, 0 ≤ x → x < (y0.length : Int) → 0 ≤ rd y0 x ∧ rd y0 x < (t.fNodes.length : Int) := fun x x0 x1 => by
      have a := hkd x.toNat (by omega)
      have b := (node_val (hnd x.toNat (by omega))).1
      rw [Int.toNat_of_nonneg x0] at a b
      exact ⟨a, b⟩
    rw [ref15_Made.b2]; unfold jn; dsimp only
    rw [decide_eq_true (show (i : Int) < (d.fEdges.length : Int) by omega), cond_true, decide_eq_true (show (i : Int) < 10 by omega), cond_true, decide_eq_true (show (y0.length : Int) > 0 by omega), cond_true, decide_eq_true (show (t.fEdges.length : Int) > 0 by omega), cond_true,
      gd ⟨by omega, by omega⟩, gd (show (t.fEdges.length : Int) ≠ 0 by omega), gd ⟨by omega, by omega⟩, gd (show (y0.length : Int) ≠ 0 by omega), gd ⟨by omega, by omega⟩, gd (show (y0.length : Int) ≠ 0 by omega), wrap_byte b0, wrap_byte b1, wrap_byte b2, gd m1, gd m2,
      ref_Fits_eq (by omega) ht hv m0.1 m0.2 (kk _ m1.1 m1.2).1 (kk _ m1.1 m1.2).2 (kk _ m2.1 m2.2).1 (kk _ m2.1 m2.2).2, Option.bind_some, gd (by rw [List.length_singleton]; omega), gd (inR_nat (n := i) (by omega)), gd (inR_nat (n := i) (by omega))]
    cases c : fitsB t ((rd d.fEdges (i : Int)).e0.tmod (t.fEdges.length : Int)) (rd y0 ((rd d.fEdges (i : Int)).e1.tmod (y0.length : Int))) (rd y0 ((rd d.fEdges (i : Int)).e2.tmod (y0.length : Int))) with
    | false => rw [cond_false]; exact ih s ⟨by omega, hp⟩
    | true =>
      rw [cond_true]
      refine ih _ ⟨by rw [List.length_append, List.length_singleton]; omega, h8, by show (s ++ [_]).length ≤ 10; rw [List.length_append, List.length_singleton]; omega, hl, hkd, hnd, fun x hx => ?_⟩
      rcases List.mem_append.1 hx with q | q
      · exact hp.edge x q
      · rw [List.mem_singleton] at q; subst q
        exact ⟨m0, m1, m2, c⟩
theorem made_out {k : Nat} (hk : 1000 ≤ k) {t : Types} (ht : FewT t) (hv : validS t = 0) (ho : ∀ a, 0 ≤ a → a < (t.fNodes.length : Int) → ∀ x ∈ attrsS t.fNodes t.fNodes.length a, x.fLow ≤ x.fHigh) (ha : ∀ a, (attrsS t.fNodes t.fNodes.length a).length ≤ 12) {d : Draft} (hd : BytesD d) :
    Out (ref15_Made k t d) (fun h => HostP t h.fGraph h.fValues) := by
  have lm : 1000 ≤ lim := by decide
  obtain ⟨w, h12, h20⟩ := valid_wf hv
  obtain ⟨l, el, hl20, hl⟩ := concrete_out hk ht
  unfold ref15_Made
  rw [el, Option.bind_some]
  let n := if 0 < l.length then min d.fNodes.length 8 else 0
  have hn8 : n ≤ 8 := by
    show (if 0 < l.length then min d.fNodes.length 8 else 0) ≤ 8
    split
    · exact Nat.min_le_right _ _
    · exact Nat.zero_le _
  have hlt : ∀ i, i < n → i < d.fNodes.length ∧ i < 8 ∧ 0 < l.length := fun i hi => by
    have hi : i < if 0 < l.length then min d.fNodes.length 8 else 0 := hi
    split at hi
    · rename_i q; exact ⟨by omega, by omega, q⟩
    · omega
  have hge : n < d.fNodes.length → n < 8 → 0 < l.length → False := fun a b c => by
    have hn : n = if 0 < l.length then min d.fNodes.length 8 else 0 := rfl
    rw [if_pos c] at hn
    omega
  refine loop3_out (I := fun (y0 : List Int) (y2 : List (List Int)) (i : Nat) => y0.length = i ∧ y2.length = i ∧ (∀ j : Nat, j < y0.length → 0 ≤ rd y0 (j : Int)) ∧ ∀ j : Nat, j < y0.length → nodeV t (rd y0 (j : Int)) (rd y2 (j : Int)) = 0) (P := fun (h : Host) => HostP t h.fGraph h.fValues) n (fun y0 y2 hI rec => ?_) (fun y0 y2 i hi hI rec ih => ?_) k 0 [] [] (Nat.zero_le _) (by omega) ⟨rfl, rfl, fun j hj => by simp at hj, fun j hj => by simp at hj⟩
  · obtain ⟨h1, h2, h3, h4⟩ := hI
    have fin := made_edges hk ht hv hd (y0 := y0) (y2 := y2) (by omega) (by omega) h3 h4
    rw [ref15_Made.b0]; unfold jn; dsimp only
    by_cases c1 : (n : Int) < (d.fNodes.length : Int)
    · rw [decide_eq_true c1, cond_true]
      by_cases c2 : (n : Int) < 8
      · rw [decide_eq_true c2, cond_true]
        by_cases c3 : (l.length : Int) > 0
        · exact (hge (by omega) (by omega) (by omega)).elim
        · rw [decide_eq_false c3, cond_false]; exact fin
      · rw [decide_eq_false c2, cond_false, cond_false]; exact fin
    · rw [decide_eq_false c1, cond_false, cond_false]; exact fin
  · obtain ⟨h1, h2, h3, h4⟩ := hI
    obtain ⟨q1, q2, q3⟩ := hlt i hi
    obtain ⟨b0, b1⟩ := hd.n _ (rd_mem (l := d.fNodes) (x := (i : Int)) (by omega) (by omega))
    have m0 := tmod_in b0.1 (show (0 : Int) < (l.length : Int) by omega)
    rw [ref15_Made.b0]; unfold jn; dsimp only
    rw [decide_eq_true (show (i : Int) < (d.fNodes.length : Int) by omega), cond_true, decide_eq_true (show (i : Int) < 8 by omega), cond_true, decide_eq_true (show (l.length : Int) > 0 by omega), cond_true, gd ⟨by omega, by omega⟩, gd (show (l.length : Int) ≠ 0 by omega), wrap_byte b0, gd m0]
    generalize hc : rd l ((rd d.fNodes (i : Int)).e0.tmod (l.length : Int)) = c
    obtain ⟨c0, c1, c2⟩ := hl c (by rw [← hc]; exact rd_mem m0.1 m0.2)
    rw [ref04_Attrs_eq (by omega) ht hv c0 c1, Option.bind_some]
    generalize hA : attrsS t.fNodes t.fNodes.length c = A
    have hA12 : A.length ≤ 12 := by rw [← hA]; exact ha c
    have hAo : ∀ x ∈ A, x.fLow ≤ x.fHigh := by rw [← hA]; exact ho c c0 c1
    have hAb : ∀ x ∈ A, Bnd x := by rw [← hA]; exact attrs_bounds hv c1
    refine loop2_out (I := fun (s : List Int) (q : Nat) => s.length = q ∧ ∀ p, p < q → outB A s p = false) (P := fun _ _ (h : Host) => HostP t h.fGraph h.fValues) A.length (fun s hs rec2 => ?_) (fun s q hq hs rec2 ih2 => ?_) k 0 [] (Nat.zero_le _) (by omega) ⟨rfl, fun p hp => by omega⟩
    · obtain ⟨s1, s2⟩ := hs
      rw [ref15_Made.b1]; unfold jn; dsimp only
      rw [decide_eq_false (show ¬ (A.length : Int) < (A.length : Int) by omega), cond_false, wrap_byte b0, hc, gd (by rw [List.length_singleton]; omega), gd (by rw [List.length_singleton]; omega), gd (inR_nat (n := i) (by omega))]
      refine ih _ _ ⟨by rw [List.length_append, List.length_singleton]; omega, by rw [List.length_append, List.length_singleton]; omega, fun j hj => ?_, fun j hj => ?_⟩
      · rw [List.length_append, List.length_singleton] at hj
        rw [rd_snoc hj]
        split
        · rename_i q; exact h3 j q
        · exact c0
      · rw [List.length_append, List.length_singleton] at hj
        rw [rd_snoc hj, rd_snoc (by omega)]
        by_cases q : j < y0.length
        · rw [if_pos q, if_pos (by omega)]; exact h4 j q
        · rw [if_neg q, if_neg (by omega)]
          unfold nodeV
          rw [decide_eq_false (by omega), cond_false, c2, cond_false, hA, s1, bne_self_eq_false, cond_false, anyN_none fun p _ hp => s2 p hp]; rfl
    · obtain ⟨s1, s2⟩ := hs
      have hm := rd_mem (l := A) (x := (q : Int)) (by omega) (by omega)
      have o1 := hAo _ hm; have o2 := (hAb _ hm).1; have o3 := (hAb _ hm).2
      have b10 := b1.1; have b11 := b1.2
      have m1 := tmod_in (a := (rd d.fNodes (i : Int)).e1 + 7 * (q : Int)) (b := (rd A (q : Int)).fHigh - (rd A (q : Int)).fLow + 1) (by omega) (by omega)
      rw [ref15_Made.b1]; unfold jn; dsimp only
      rw [decide_eq_true (show (q : Int) < (A.length : Int) by omega), cond_true, gd ⟨by omega, by omega⟩, gd ⟨by omega, by omega⟩, wrap_byte b1, gd (show inR (7 * (q : Int)) by unfold inR; omega), gd (show inR ((rd d.fNodes (i : Int)).e1 + 7 * (q : Int)) by unfold inR; omega), gd ⟨by omega, by omega⟩, gd ⟨by omega, by omega⟩,
        gd (show inR ((rd A (q : Int)).fHigh - (rd A (q : Int)).fLow) by unfold inR; omega), gd (show inR ((rd A (q : Int)).fHigh - (rd A (q : Int)).fLow + 1) by unfold inR; omega), gd (show (rd A (q : Int)).fHigh - (rd A (q : Int)).fLow + 1 ≠ 0 by omega)]
      generalize hM : ((rd d.fNodes (i : Int)).e1 + 7 * (q : Int)).tmod ((rd A (q : Int)).fHigh - (rd A (q : Int)).fLow + 1) = M at *
      rw [gd (show inR ((rd A (q : Int)).fLow + M) by unfold inR; omega), gd (by rw [List.length_singleton]; omega), gd (inR_nat (n := q) (by omega))]
      refine ih2 _ ⟨by rw [List.length_append, List.length_singleton]; omega, fun p hp => ?_⟩
      unfold outB
      rw [rd_snoc (by omega)]
      by_cases e : p < s.length
      · rw [if_pos e]; exact s2 p (by omega)
      · have ep : p = q := by omega
        rw [if_neg e, ep, decide_eq_false (by omega), decide_eq_false (by omega)]; rfl
end Go.Proofs.YthmdmchmmgmblaaGreat

namespace Go.Proofs.YthmdmchmmgmblaaGreat
open Go Go.Abs

theorem gdI {R : Type} {p : Prop} [Decidable p] {x : Option R} {r : R} (h : p) (k : x = some r) : (if p then x else none) = some r := by rw [if_pos h]; exact k
theorem bindE {A R : Type} {x y : A} {f : A → Option R} {r : Option R} (e : x = y) (h : f y = r) : (some x).bind f = r := by rw [e]; exact h
def exN : List NodeType := [NodeType.mk [65, 99, 99, 111, 117, 110, 116] (-1) true [Attr.mk [98, 97, 108, 97, 110, 99, 101] (-1000) 1000 []], NodeType.mk [67, 97, 115, 104] 0 false [], NodeType.mk [76, 111, 97, 110] 0 false [Attr.mk [115, 116, 97, 116, 101] 0 1 [[111, 112, 101, 110], [99, 108, 111, 115, 101, 100]]], NodeType.mk [80, 101, 114, 115, 111, 110] (-1) false []]
def ed0 (a b c d : Int) : EdgeType := EdgeType.mk [111, 119, 110, 115] 3 0 a b c d
def ed1 : EdgeType := EdgeType.mk [112, 97, 121, 115] 1 1 0 (-1) 0 (-1)
def exT (a b c d : Int) : Types := Types.mk exN [ed0 a b c d, ed1]
theorem Example_eq (k : Nat) : ref04_Example k = some (exT 0 (-1) 1 1) := rfl
theorem exT_validN : ∀ a : Nat, a < 3 → ∀ b : Nat, b < 6 → ∀ c : Nat, c < 3 → ∀ d : Nat, d < 6 → (!(b == 0 || decide (a + 1 ≤ b)) || !(d == 0 || decide (c + 1 ≤ d)) || validS (exT (a : Int) ((b : Int) - 1) (c : Int) ((d : Int) - 1)) == 0) = true := by decide +kernel
theorem exT_valid {a b c d : Int} (a0 : 0 ≤ a) (a1 : a ≤ 2) (hb : b = -1 ∨ (a ≤ b ∧ b ≤ 4)) (c0 : 0 ≤ c) (c1 : c ≤ 2) (hd : d = -1 ∨ (c ≤ d ∧ d ≤ 4)) : validS (exT a b c d) = 0 := by
  have := exT_validN a.toNat (by omega) (b + 1).toNat (by omega) c.toNat (by omega) (d + 1).toNat (by omega)
  have q1 : ((b + 1).toNat == 0 || decide (a.toNat + 1 ≤ (b + 1).toNat)) = true := by rw [Bool.or_eq_true, beq_iff_eq, decide_eq_true_eq]; omega
  have q2 : ((d + 1).toNat == 0 || decide (c.toNat + 1 ≤ (d + 1).toNat)) = true := by rw [Bool.or_eq_true, beq_iff_eq, decide_eq_true_eq]; omega
  rw [q1, q2, Bool.not_true, Bool.false_or, Bool.false_or, beq_iff_eq] at this
  rw [Int.toNat_of_nonneg a0, Int.toNat_of_nonneg c0, Int.toNat_of_nonneg (show 0 ≤ b + 1 by omega), Int.toNat_of_nonneg (show 0 ≤ d + 1 by omega)] at this
  have e1 : b + 1 - 1 = b := by omega
  have e2 : d + 1 - 1 = d := by omega
  rw [e1, e2] at this
  exact this
theorem exT_few (a b c d : Int) : FewT (exT a b c d) := by
  have e1 : exN.length ≤ 20 := by decide
  have e2 : ∀ n ∈ exN, n.fName.length ≤ 40 := by decide
  have e3 : ∀ n ∈ exN, n.fAttrs.length ≤ 30 := by decide
  have e4 : ([ed0 a b c d, ed1] : List EdgeType).length ≤ 30 := by simp
  refine ⟨e1, e4, e2, e3, fun n hn x hx => ?_, fun x hx => ?_⟩
  · have hn' : n ∈ exN := hn
    simp only [exN, List.mem_cons, List.mem_nil_iff, or_false] at hn'
    rcases hn' with rfl | rfl | rfl | rfl
    · simp only [List.mem_cons, List.mem_nil_iff, or_false] at hx; subst hx
      exact ⟨by decide, by decide, by decide⟩
    · cases hx
    · simp only [List.mem_cons, List.mem_nil_iff, or_false] at hx; subst hx
      exact ⟨by decide, by decide, by decide⟩
    · cases hx
  · have hx' : x ∈ [ed0 a b c d, ed1] := hx
    simp only [List.mem_cons, List.mem_nil_iff, or_false] at hx'
    rcases hx' with rfl | rfl
    · show ([111, 119, 110, 115] : Str).length ≤ 40; decide
    · decide
theorem exN_attrs : ∀ a : Int, (rd exN a).fAttrs.length ≤ 1 := by
  intro a
  have h : ∀ n ∈ exN, n.fAttrs.length ≤ 1 := by decide
  unfold rd
  by_cases c : a.toNat < exN.length
  · have : exN.getD a.toNat default = exN[a.toNat] := by simp [List.getD, List.getElem?_eq_getElem c]
    rw [this]; exact h _ (List.getElem_mem c)
  · have : exN.getD a.toNat default = default := by simp [List.getD, List.getElem?_eq_none (Nat.le_of_not_lt c)]
    rw [this]; decide
theorem exN_len : ∀ (d : Nat) (a : Int), (attrsS exN d a).length ≤ d
  | 0, _ => Nat.le_refl _
  | d + 1, a => by
    unfold attrsS
    by_cases c : a < 0
    · rw [decide_eq_true c]; exact Nat.zero_le _
    · rw [decide_eq_false c, cond_false, List.length_append]
      have h1 := exN_len d (rd exN a).fParent
      have h2 := exN_attrs a
      omega
theorem exN_ord : ∀ a : Int, 0 ≤ a → a < 4 → ∀ x ∈ attrsS exN 4 a, x.fLow ≤ x.fHigh := by
  intro a a0 a1
  have h : ∀ n : Nat, n < 4 → ∀ x ∈ attrsS exN 4 (n : Int), x.fLow ≤ x.fHigh := by decide +kernel
  have := h a.toNat (by omega)
  rwa [Int.toNat_of_nonneg a0] at this
theorem exN_is : ∀ a : Int, 0 ≤ a → a < 4 → isB exN a 3 = (a == 3) ∧ isB exN a 0 = (a != 3) := by
  intro a a0 a1
  have h : ∀ n : Nat, n < 4 → isB exN (n : Int) 3 = ((n : Int) == 3) ∧ isB exN (n : Int) 0 = ((n : Int) != 3) := by decide +kernel
  have := h a.toNat (by omega)
  rwa [Int.toNat_of_nonneg a0] at this
theorem made_ex {k : Nat} (hk : 1000 ≤ k) {a b c d : Int} (hv : validS (exT a b c d) = 0) {x : Draft} (hd : BytesD x) :
    ∃ h, ref15_Made k (exT a b c d) x = some h ∧ FewH h ∧ hostV (exT a b c d) h = (-1, 0) ∧ h.fGraph.fNodes.length ≤ 8 ∧ h.fGraph.fEdges.length ≤ 10 := by
  have hA : ∀ q, (attrsS (exT a b c d).fNodes (exT a b c d).fNodes.length q).length ≤ 12 := fun q => by
    have : (attrsS exN 4 q).length ≤ 4 := exN_len 4 q
    show (attrsS exN 4 q).length ≤ 12
    omega
  obtain ⟨h, e, hp⟩ := made_out hk (exT_few a b c d) hv (fun q q0 q1 => exN_ord q q0 q1) hA hd
  exact ⟨h, e, hp.few (exT_few a b c d) hv hA, hp.ok hv, hp.n8, hp.e10⟩
/-! ### Counting twice -/
theorem count3_from {R : Type} {b : (Int → Int → Int → Option R) → Int → Int → Int → Option R} (p q : Nat → Bool) (n : Nat) (x : Option R) (hend : ∀ rec, b rec (cntN p n : Int) (cntN q n : Int) (n : Int) = x)
    (hstep : ∀ i, i < n → ∀ (c d : Nat) (rec : Int → Int → Int → Option R), c ≤ i → d ≤ i → b rec (c : Int) (d : Int) (i : Int) = rec (bif p i then (c : Int) + 1 else (c : Int)) (bif q i then (d : Int) + 1 else (d : Int)) ((i : Int) + 1)) :
    ∀ (d k i : Nat), i + d = n → d < k → loop3 k b (cntN p i : Int) (cntN q i : Int) (i : Int) = x
  | d, 0, _, _, hk => by omega
  | 0, k + 1, i, hi, _ => by
    obtain rfl : i = n := by omega
    unfold loop3; exact hend _
  | d + 1, k + 1, i, hi, hk => by
    have ih := count3_from p q n x hend hstep d k (i + 1) (by omega) (by omega)
    unfold loop3
    rw [hstep i (by omega) _ _ _ (cntN_le p i) (cntN_le q i)]
    unfold cntN at ih
    have e1 : (bif p i then (cntN p i : Int) + 1 else (cntN p i : Int)) = ((cntN p i + (bif p i then 1 else 0) : Nat) : Int) := by cases p i <;> simp
    have e2 : (bif q i then (cntN q i : Int) + 1 else (cntN q i : Int)) = ((cntN q i + (bif q i then 1 else 0) : Nat) : Int) := by cases q i <;> simp
    rw [e1, e2]
    exact_mod_cast ih
theorem lf_dec (x y : Excess) : ([Lf.i x.fEdge, Lf.i x.fNode, Lf.i x.fCount, Lf.b x.fOut] == [Lf.i y.fEdge, Lf.i y.fNode, Lf.i y.fCount, Lf.b y.fOut]) = decide (x = y) := by
  cases x; cases y
  rw [Bool.eq_iff_iff]
  simp
theorem Contains_Excess_eq {k : Nat} (l : List Excess) (x : Excess) (hk : l.length < k) (hl : l.length ≤ 1000000) : slices_Contains_Excess k l x = some (decide (x ∈ l)) := by
  have h := ix_contains l (fun y => some ([Lf.i x.fEdge, Lf.i x.fNode, Lf.i x.fCount, Lf.b x.fOut] == [Lf.i y.fEdge, Lf.i y.fNode, Lf.i y.fCount, Lf.b y.fOut])) (fun j => decide (x = rd l (j : Int))) k hk hl (fun j _ => by rw [lf_dec])
  have h' : slices_Contains_Excess k l x = some (anyN (fun j => decide (x = rd l (j : Int))) 0 l.length) := h
  rw [h']
  congr 1
  rw [Bool.eq_iff_iff, anyN_iff, decide_eq_true_eq]
  constructor
  · rintro ⟨j, -, hj, e⟩
    rw [of_decide_eq_true e]
    exact rd_mem (by omega) (by omega)
  · intro hm
    obtain ⟨i, hi, e⟩ := List.mem_iff_getElem.1 hm
    refine ⟨i, Nat.zero_le _, hi, ?_⟩
    rw [decide_eq_true_eq, ← e]
    simp [rd, List.getD, List.getElem?_eq_getElem hi]
theorem mem_exc {t : Types} {h : Host} (e0 : (hostV t h).2 = 0) {e : Nat} (he : e < t.fEdges.length) {i : Nat} (hi : i < h.fGraph.fNodes.length) (out : Bool) :
    (Excess.mk (e : Int) (i : Int) (cntE h.fGraph (e : Int) (i : Int) out : Int) out ∈ (excS t h).1) ↔
      (isB t.fNodes (rd h.fGraph.fNodes (i : Int)) (bif out then (rd t.fEdges (e : Int)).fFrom else (rd t.fEdges (e : Int)).fTo) &&
        excB (bif out then (rd t.fEdges (e : Int)).fOutLow else (rd t.fEdges (e : Int)).fInLow) (bif out then (rd t.fEdges (e : Int)).fOutHigh else (rd t.fEdges (e : Int)).fInHigh) (cntE h.fGraph (e : Int) (i : Int) out)) = true := by
  have in1 : ∀ (e' : Int) (out' : Bool) (kind low high : Int) (x : Excess), x ∈ excL t h e' out' kind low high ↔ ∃ j, j < h.fGraph.fNodes.length ∧ (isB t.fNodes (rd h.fGraph.fNodes (j : Int)) kind && excB low high (cntE h.fGraph e' (j : Int) out')) = true ∧ x = Excess.mk e' (j : Int) (cntE h.fGraph e' (j : Int) out' : Int) out' := fun e' out' kind low high x => by
    unfold excL
    rw [List.mem_flatMap]
    constructor
    · rintro ⟨j, hj, hx⟩
      unfold exc1 at hx
      cases c : (isB t.fNodes (rd h.fGraph.fNodes (j : Int)) kind && excB low high (cntE h.fGraph e' (j : Int) out')) with
      | false => rw [c] at hx; cases hx
      | true => rw [c, cond_true, List.mem_singleton] at hx; exact ⟨j, List.mem_range.1 hj, c, hx⟩
    · rintro ⟨j, hj, c, hx⟩
      refine ⟨j, List.mem_range.2 hj, ?_⟩
      unfold exc1
      rw [c, cond_true, List.mem_singleton]; exact hx
  unfold excS
  rw [e0, bne_self_eq_false, cond_false, List.mem_flatMap]
  constructor
  · rintro ⟨e', he', hx⟩
    unfold excA at hx
    rcases List.mem_append.1 hx with q | q
    · obtain ⟨j, hj, c, hq⟩ := (in1 _ _ _ _ _ _).1 q
      injection hq with q1 q2 q3 q4
      have e1 : e' = e := by omega
      have e2 : j = i := by omega
      subst e1; subst e2; subst q4
      exact c
    · obtain ⟨j, hj, c, hq⟩ := (in1 _ _ _ _ _ _).1 q
      injection hq with q1 q2 q3 q4
      have e1 : e' = e := by omega
      have e2 : j = i := by omega
      subst e1; subst e2; subst q4
      exact c
  · intro c
    refine ⟨e, List.mem_range.2 he, ?_⟩
    unfold excA
    cases out with
    | true => exact List.mem_append_left _ ((in1 _ _ _ _ _ _).2 ⟨i, hi, c, rfl⟩)
    | false => exact List.mem_append_right _ ((in1 _ _ _ _ _ _).2 ⟨i, hi, c, rfl⟩)
/-! ### Components of a good graph end without an error -/
theorem Numbers_eq {k n : Nat} (hk : n < k) (hn : n ≤ 100) : ref05_Numbers k 0 (n : Int) = some ((List.range n).flatMap fun (i : Nat) => [(i : Int)]) := by
  have lm : 1000 ≤ lim := by decide
  unfold ref05_Numbers
  rw [collect_loop (fun (i : Nat) => [(i : Int)]) n 1 (fun s => some s) (fun _ _ => Nat.le_refl _) [] (fun s rec hs => ?_) (fun i hi s rec hs => ?_) hk]
  · rfl
  · rw [ref05_Numbers.b0, decide_eq_false (show ¬ (n : Int) < (n : Int) by omega), cond_false]
  · have hs' : s.length ≤ 0 + 1 * i := hs
    rw [ref05_Numbers.b0, decide_eq_true (show (i : Int) < (n : Int) by omega), cond_true, gd (show inR (0 + (i : Int)) by unfold inR; omega), gd (by rw [List.length_singleton]; omega), gd (inR_nat (n := i) (by omega)), Int.zero_add]
theorem Components_out {k : Nat} (hk : 1000 ≤ k) {g : Graph} (hg : FewG g) (h0 : graphErr g = 0) : Out (ref05_Components k g) (fun r => r.2 = 0) := by
  have good := graphErr_good h0
  have g1 := good.nodes; have g2 := good.edges
  have lm : 1000 ≤ lim := by decide
  unfold ref05_Components
  rw [ref05_Valid_eq (by omega) hg, Option.bind_some, h0, bne_self_eq_false, cond_false, Numbers_eq (by omega) (by omega), Option.bind_some]
  refine loop2_out (I := fun (l : List Int) _ => l.length = g.fNodes.length) (P := fun _ _ (r : List Part × Int) => r.2 = 0) g.fNodes.length (fun l hl rec => ?_) (fun l i hi hl rec ih => ?_) k 0 _ (Nat.zero_le _) (by omega) (len_tab _ _)
  · rw [ref05_Components.b0, decide_eq_false (show ¬ (g.fNodes.length : Int) < (g.fNodes.length : Int) by omega), cond_false]
    refine loop2_out (I := fun (s : List Part) (j : Nat) => s.length ≤ j) (P := fun _ _ (r : List Part × Int) => r.2 = 0) g.fNodes.length (fun s hs rec => ?_) (fun s j hj hs rec ih => ?_) k 0 [] (Nat.zero_le _) (by omega) (Nat.le_refl _)
    · rw [ref05_Components.b2, decide_eq_false (show ¬ (g.fNodes.length : Int) < (g.fNodes.length : Int) by omega), cond_false]; exact ⟨_, rfl, rfl⟩
    · rw [ref05_Components.b2]; unfold jn; dsimp only
      rw [decide_eq_true (show (j : Int) < (g.fNodes.length : Int) by omega), cond_true, gd ⟨by omega, by omega⟩, gd (inR_nat (n := j) (by omega))]
      cases (rd l (j : Int) != (j : Int)) with
      | true => exact ih s (by omega)
      | false =>
        rw [cond_false]
        refine loop2_out (I := fun (y : List Int) (q : Nat) => y.length ≤ q) (P := fun _ _ (r : List Part × Int) => r.2 = 0) g.fNodes.length (fun y hy rec2 => ?_) (fun y q hq hy rec2 ih2 => ?_) k 0 [] (Nat.zero_le _) (by omega) (Nat.le_refl _)
        · rw [ref05_Components.b3, decide_eq_false (show ¬ (g.fNodes.length : Int) < (g.fNodes.length : Int) by omega), cond_false]
          refine loop2_out (I := fun (y : List Int) (q : Nat) => y.length ≤ q) (P := fun _ _ (r : List Part × Int) => r.2 = 0) g.fEdges.length (fun z hz rec3 => ?_) (fun z q hq hz rec3 ih3 => ?_) k 0 [] (Nat.zero_le _) (by omega) (Nat.le_refl _)
          · rw [ref05_Components.b4, decide_eq_false (show ¬ (g.fEdges.length : Int) < (g.fEdges.length : Int) by omega), cond_false, gd (by rw [List.length_singleton]; omega), gd (inR_nat (n := j) (by omega))]
            exact ih _ (by rw [List.length_append, List.length_singleton]; omega)
          · have r := good.right q hq
            rw [ref05_Components.b4, decide_eq_true (show (q : Int) < (g.fEdges.length : Int) by omega), cond_true, gd ⟨by omega, by omega⟩, gd ⟨by omega, by omega⟩, gd (by rw [List.length_singleton]; omega), gd (inR_nat (n := q) (by omega)), gd (inR_nat (n := q) (by omega))]
            cases (rd l (rd g.fEdges (q : Int)).fFrom == (j : Int)) with
            | true => exact ih3 _ (by rw [List.length_append, List.length_singleton]; omega)
            | false => exact ih3 _ (by omega)
        · rw [ref05_Components.b3, decide_eq_true (show (q : Int) < (g.fNodes.length : Int) by omega), cond_true, gd ⟨by omega, by omega⟩, gd (by rw [List.length_singleton]; omega), gd (inR_nat (n := q) (by omega)), gd (inR_nat (n := q) (by omega))]
          cases (rd l (q : Int) == (j : Int)) with
          | true => exact ih2 _ (by rw [List.length_append, List.length_singleton]; omega)
          | false => exact ih2 _ (by omega)
  · rw [ref05_Components.b0, decide_eq_true (show (i : Int) < (g.fNodes.length : Int) by omega), cond_true]
    refine loop2_out (I := fun (l : List Int) _ => l.length = g.fNodes.length) (P := fun _ _ (r : List Part × Int) => r.2 = 0) g.fEdges.length (fun l hl rec => ?_) (fun l q hq hl rec ih2 => ?_) k 0 l (Nat.zero_le _) (by omega) hl
    · rw [ref05_Components.b1, decide_eq_false (show ¬ (g.fEdges.length : Int) < (g.fEdges.length : Int) by omega), cond_false, gd (inR_nat (n := i) (by omega))]
      exact ih l hl
    · have r := good.right q hq
      rw [ref05_Components.b1, decide_eq_true (show (q : Int) < (g.fEdges.length : Int) by omega), cond_true, gd ⟨by omega, by omega⟩, gd ⟨by omega, by omega⟩, gd ⟨by omega, by omega⟩, gd ⟨by omega, by omega⟩, gd ⟨by omega, by omega⟩, gd (by rw [List.length_set]; omega), gd (inR_nat (n := q) (by omega))]
      exact ih2 _ (by rw [List.length_set, List.length_set]; exact hl)
end Go.Proofs.YthmdmchmmgmblaaGreat

namespace Go.Proofs.YthmdmchmmgmblaaGreat
open Go Go.Abs
attribute [local irreducible] inR

structure Bytes4 (x : A4Int) : Prop where
  b0 : Byte x.e0
  b1 : Byte x.e1
  b2 : Byte x.e2
  b3 : Byte x.e3
theorem small_mod {x m : Int} (h : Byte x) (hm : 0 < m) (hm2 : m ≤ 100) : ∃ r, IntKind.i64.wrap (x.tmod m) = r ∧ 0 ≤ r ∧ r < m := by
  have t := tmod_in h.1 hm
  exact ⟨_, wrap_inR (by unfold inR; omega), t⟩
theorem b1_end {k : Nat} {es : List EdgeType} {h : Host} {l : List Excess × Int} {i c d j : Int} {rec0 : Int → Option Bool} {rec1 : Int → Int → Int → Option Bool} {p q : Bool} (hj : ¬ j < (h.fGraph.fEdges.length : Int)) (hi : inR (i + 1))
    (e1 : slices_Contains_Excess k l.1 (Excess.mk 0 i c true) = some p) (e2 : slices_Contains_Excess k l.1 (Excess.mk 0 i d false) = some q) : law15_HostCounts.b1 k es h l i rec0 rec1 c d j =
    bif (p != ((rd h.fGraph.fNodes i == 3) && (decide (c < (rd es 0).fOutLow) || (decide ((rd es 0).fOutHigh ≥ 0) && decide (c > (rd es 0).fOutHigh))))) || (q != ((rd h.fGraph.fNodes i != 3) && (decide (d < (rd es 0).fInLow) || (decide ((rd es 0).fInHigh ≥ 0) && decide (d > (rd es 0).fInHigh))))) then some false else rec0 (i + 1) := by
  rw [law15_HostCounts.b1]; unfold jn; dsimp only
  rw [decide_eq_false hj, cond_false, e1, e2, gd hi]
  generalize decide (c < (rd es 0).fOutLow) = x1
  generalize decide ((rd es 0).fOutHigh ≥ 0) = x2
  generalize decide (c > (rd es 0).fOutHigh) = x3
  generalize decide (d < (rd es 0).fInLow) = y1
  generalize decide ((rd es 0).fInHigh ≥ 0) = y2
  generalize decide (d > (rd es 0).fInHigh) = y3
  generalize (rd h.fGraph.fNodes i == 3) = z
  generalize (rd h.fGraph.fNodes i != 3) = z'
  cases p <;> cases q <;> cases z <;> cases z' <;> cases x1 <;> cases x2 <;> cases x3 <;> cases y1 <;> cases y2 <;> cases y3 <;> rfl
theorem b1_step {k : Nat} {es : List EdgeType} {h : Host} {l : List Excess × Int} {i c d j : Int} {rec0 : Int → Option Bool} {rec1 : Int → Int → Int → Option Bool} (j0 : 0 ≤ j) (hj : j < (h.fGraph.fEdges.length : Int)) (hc : inR (c + 1)) (hd : inR (d + 1)) (hi : inR (j + 1)) : law15_HostCounts.b1 k es h l i rec0 rec1 c d j =
    rec1 (bif ((rd h.fGraph.fEdges j).fType == 0) && ((rd h.fGraph.fEdges j).fFrom == i) then c + 1 else c) (bif ((rd h.fGraph.fEdges j).fType == 0) && ((rd h.fGraph.fEdges j).fTo == i) then d + 1 else d) (j + 1) := by
  rw [law15_HostCounts.b1]; unfold jn; dsimp only
  rw [decide_eq_true hj, cond_true, gd (show 0 ≤ j ∧ j < (h.fGraph.fEdges.length : Int) from ⟨j0, hj⟩)]
  generalize ((rd h.fGraph.fEdges j).fType == 0) = x
  generalize ((rd h.fGraph.fEdges j).fFrom == i) = y
  generalize ((rd h.fGraph.fEdges j).fTo == i) = z
  generalize hA : (c + 1 : Int) = A at *
  generalize hB : (d + 1 : Int) = B at *
  generalize hC : (j + 1 : Int) = C at *
  cases x <;> cases y <;> cases z <;> simp only [cond_true, cond_false, if_pos hc, if_pos hd, if_pos hi, Bool.and_true, Bool.and_false, Bool.true_and, Bool.false_and]
/-- No node is told wrongly. -/
theorem counts_loop {k : Nat} (hk : 6000 ≤ k) {a b c d : Int} (hv : validS (exT a b c d) = 0) {h : Host} (hh : FewH h) (e0 : hostV (exT a b c d) h = (-1, 0)) :
    loop1 k (law15_HostCounts.b0 k [ed0 a b c d, ed1] h (excS (exT a b c d) h)) 0 = some true := by
  have e1 : (hostV (exT a b c d) h).2 = 0 := by rw [e0]
  have ok := host_ok e1
  obtain ⟨g0, -⟩ := host_more e1
  have gn := hh.graph.nodes; have ge := hh.graph.edges
  have el := excS_len (exT_few a b c d) hh
  refine loop1_eq (fun _ => true) h.fGraph.fNodes.length (fun rec => ?_) (fun i hi rec ih => ?_) (Nat.zero_le _) (by omega)
  · obtain ⟨r, er, hr⟩ := Components_out (k := k) (by omega) hh.graph g0
    rw [law15_HostCounts.b0, decide_eq_false (show ¬ (h.fGraph.fNodes.length : Int) < (h.fGraph.fNodes.length : Int) by omega), cond_false, er, Option.bind_some, hr]; rfl
  · have k0 := (ok.graph.kind i hi).1
    have k1 : rd h.fGraph.fNodes (i : Int) < 4 := (node_val (ok.node i hi)).1
    obtain ⟨i3, i0⟩ := exN_is _ k0 k1
    have mo := mem_exc (t := exT a b c d) e1 (e := 0) (by show 0 < 2; omega) hi true
    have mi := mem_exc (t := exT a b c d) e1 (e := 0) (by show 0 < 2; omega) hi false
    have mo' : decide (Excess.mk 0 (i : Int) (cntE h.fGraph 0 (i : Int) true : Int) true ∈ (excS (exT a b c d) h).1) = ((rd h.fGraph.fNodes (i : Int) == 3) && excB a b (cntE h.fGraph 0 (i : Int) true)) := by
      rw [Bool.eq_iff_iff, decide_eq_true_eq]
      refine mo.trans ?_
      show (isB exN (rd h.fGraph.fNodes (i : Int)) 3 && excB a b (cntE h.fGraph 0 (i : Int) true)) = true ↔ _
      rw [i3]
    have mi' : decide (Excess.mk 0 (i : Int) (cntE h.fGraph 0 (i : Int) false : Int) false ∈ (excS (exT a b c d) h).1) = ((rd h.fGraph.fNodes (i : Int) != 3) && excB c d (cntE h.fGraph 0 (i : Int) false)) := by
      rw [Bool.eq_iff_iff, decide_eq_true_eq]
      refine mi.trans ?_
      show (isB exN (rd h.fGraph.fNodes (i : Int)) 0 && excB c d (cntE h.fGraph 0 (i : Int) false)) = true ↔ _
      rw [i0]
    rw [law15_HostCounts.b0, decide_eq_true (show (i : Int) < (h.fGraph.fNodes.length : Int) by omega), cond_true, gd ⟨by omega, by omega⟩]
    refine count3_from (endB h.fGraph 0 (i : Int) true) (endB h.fGraph 0 (i : Int) false) h.fGraph.fEdges.length (some true) (fun rec1 => ?_) (fun j hj p q rec1 hp hq => ?_) h.fGraph.fEdges.length k 0 (by omega) (by omega)
    · have c1 := Contains_Excess_eq (k := k) (excS (exT a b c d) h).1 (Excess.mk 0 (i : Int) (cntE h.fGraph 0 (i : Int) true : Int) true) (by omega) (by omega)
      have c2 := Contains_Excess_eq (k := k) (excS (exT a b c d) h).1 (Excess.mk 0 (i : Int) (cntE h.fGraph 0 (i : Int) false : Int) false) (by omega) (by omega)
      rw [mo'] at c1
      rw [mi'] at c2
      refine (b1_end (by omega) (inR_nat (n := i) (by omega)) c1 c2).trans ?_
      rw [ih]
      have z1 : (rd [ed0 a b c d, ed1] 0).fOutLow = a := rfl
      have z2 : (rd [ed0 a b c d, ed1] 0).fOutHigh = b := rfl
      have z3 : (rd [ed0 a b c d, ed1] 0).fInLow = c := rfl
      have z4 : (rd [ed0 a b c d, ed1] 0).fInHigh = d := rfl
      rw [z1, z2, z3, z4]
      unfold excB
      rw [bne_self_eq_false, bne_self_eq_false]; rfl
    · refine (b1_step (by omega) (by omega) (inR_nat (n := p) (by omega)) (inR_nat (n := q) (by omega)) (inR_nat (n := j) (by omega))).trans ?_
      have eo : endB h.fGraph 0 (i : Int) true j = (((rd h.fGraph.fEdges (j : Int)).fType == 0) && ((rd h.fGraph.fEdges (j : Int)).fFrom == (i : Int))) := by
        unfold endB; cases ((rd h.fGraph.fEdges (j : Int)).fType == 0) <;> cases ((rd h.fGraph.fEdges (j : Int)).fFrom == (i : Int)) <;> rfl
      have ei : endB h.fGraph 0 (i : Int) false j = (((rd h.fGraph.fEdges (j : Int)).fType == 0) && ((rd h.fGraph.fEdges (j : Int)).fTo == (i : Int))) := by
        unfold endB; cases ((rd h.fGraph.fEdges (j : Int)).fType == 0) <;> cases ((rd h.fGraph.fEdges (j : Int)).fTo == (i : Int)) <;> rfl
      rw [eo, ei]
theorem law_counts {k : Nat} (hk : 6000 ≤ k) (aw : law15_awake k = some true) (x : Draft) (y : A4Int) (hx : BytesD x) (hy : Bytes4 y) : law15_HostCounts k x y = some true := by
  unfold law15_HostCounts jn; dsimp only
  rw [aw, Option.bind_some, Bool.not_true, cond_false, Option.bind_some]
  by_cases c1 : (x.fNodes.length : Int) > 8
  · rw [decide_eq_true c1]; rfl
  · by_cases c2 : (x.fEdges.length : Int) > 10
    · rw [decide_eq_false c1, decide_eq_true c2]; rfl
    · obtain ⟨o, eo, o0, o1⟩ := small_mod hy.b0 (show (0 : Int) < 3 by omega) (by omega)
      obtain ⟨p, ep, p0, p1⟩ := small_mod hy.b1 (show (0 : Int) < 3 by omega) (by omega)
      obtain ⟨q, eq, q0, q1⟩ := small_mod hy.b2 (show (0 : Int) < 4 by omega) (by omega)
      obtain ⟨r, er, r0, r1⟩ := small_mod hy.b3 (show (0 : Int) < 4 by omega) (by omega)
      have l2 : ∀ u v : EdgeType, (0 : Int) ≤ 0 ∧ 0 < (([u, v] : List EdgeType).length : Int) := fun u v => ⟨Int.le_refl 0, by simp⟩
      rw [decide_eq_false c1, decide_eq_false c2, cond_false, cond_false, Example_eq, Option.bind_some, eo, ep, eq, er]
      have last : ∀ a b c d : Int, 0 ≤ a → a ≤ 2 → (b = -1 ∨ (a ≤ b ∧ b ≤ 4)) → 0 ≤ c → c ≤ 2 → (d = -1 ∨ (c ≤ d ∧ d ≤ 4)) →
          ((ref15_Made k (Types.mk exN [ed0 a b c d, ed1]) x).bind fun t162 => (host_Excesses k (Types.mk exN [ed0 a b c d, ed1]) t162).bind fun t164 => bif t164.2 != 0 then some false else loop1 k (law15_HostCounts.b0 k [ed0 a b c d, ed1] t162 t164) 0) = some true := fun a b c d a0 a1 hb c0 c1 hd => by
        have hv := exT_valid a0 a1 hb c0 c1 hd
        obtain ⟨h, e, fh, eh, -, -⟩ := made_ex (k := k) (by omega) hv hx
        have e' : ref15_Made k (Types.mk exN [ed0 a b c d, ed1]) x = some h := e
        have ex : host_Excesses k (Types.mk exN [ed0 a b c d, ed1]) h = some (excS (exT a b c d) h) := Excesses_eq (by omega) (exT_few a b c d) fh
        have ez : (excS (exT a b c d) h).2 = 0 := by unfold excS; rw [eh]; rfl
        rw [e', Option.bind_some, ex, Option.bind_some, ez]
        exact counts_loop hk hv fh eh
      refine gdI (l2 _ _) (gdI (l2 _ _) (bindE (y := [ed0 o (-1) p 1, ed1]) rfl ?_))
      have f1 : (rd [ed0 o (-1) p 1, ed1] 0).fOutLow = o := rfl
      have f2 : (rd [ed0 o (-1) p 1, ed1] 0).fInLow = p := rfl
      refine gdI (l2 _ _) (gdI (by rw [f1]; unfold inR; omega) (gdI (by rw [f1]; unfold inR; omega) (gdI (l2 _ _) (gdI (by rw [f2]; unfold inR; omega) (gdI (by rw [f2]; unfold inR; omega) (gdI (l2 _ _) (gdI (l2 _ _) (bindE (y := [ed0 o (o + q - 1) p (p + r - 1), ed1]) rfl ?_))))))))
      refine gdI (l2 _ _) (gdI (l2 _ _) ?_)
      have g1 : (rd [ed0 o (o + q - 1) p (p + r - 1), ed1] 0).fOutHigh = o + q - 1 := rfl
      have g2 : (rd [ed0 o (o + q - 1) p (p + r - 1), ed1] 0).fOutLow = o := rfl
      have second : ∀ b : Int, (b = -1 ∨ (o ≤ b ∧ b ≤ 4)) → ∀ f : List EdgeType → Option Bool, (∀ l, f l = if (0 : Int) ≤ 0 ∧ 0 < (l.length : Int) then ((ref15_Made k (Types.mk exN l) x).bind fun t162 => (host_Excesses k (Types.mk exN l) t162).bind fun t164 => bif t164.2 != 0 then some false else loop1 k (law15_HostCounts.b0 k l t162 t164) 0) else none) →
          (bif decide ((rd [ed0 o b p (p + r - 1), ed1] 0).fInHigh < (rd [ed0 o b p (p + r - 1), ed1] 0).fInLow) then (if (0 : Int) ≤ 0 ∧ 0 < (([ed0 o b p (p + r - 1), ed1] : List EdgeType).length : Int) then f ([ed0 o b p (-1), ed1]) else none) else f [ed0 o b p (p + r - 1), ed1]) = some true := fun b hb f hf => by
        have i1 : (rd [ed0 o b p (p + r - 1), ed1] 0).fInHigh = p + r - 1 := rfl
        have i2 : (rd [ed0 o b p (p + r - 1), ed1] 0).fInLow = p := rfl
        rw [i1, i2]
        by_cases c : p + r - 1 < p
        · rw [decide_eq_true c, cond_true]
          refine gdI (l2 _ _) ?_
          rw [hf]
          exact gdI (l2 _ _) (last o b p (-1) o0 (by omega) hb p0 (by omega) (.inl rfl))
        · rw [decide_eq_false c, cond_false, hf]
          exact gdI (l2 _ _) (last o b p (p + r - 1) o0 (by omega) hb p0 (by omega) (.inr ⟨by omega, by omega⟩))
      by_cases c : o + q - 1 < o
      · rw [show decide ((rd [ed0 o (o + q - 1) p (p + r - 1), ed1] 0).fOutHigh < (rd [ed0 o (o + q - 1) p (p + r - 1), ed1] 0).fOutLow) = true by rw [g1, g2]; exact decide_eq_true c, cond_true]
        refine gdI (l2 _ _) (gdI (l2 _ _) (gdI (l2 _ _) ?_))
        exact second (-1) (.inl rfl) _ fun l => rfl
      · rw [show decide ((rd [ed0 o (o + q - 1) p (p + r - 1), ed1] 0).fOutHigh < (rd [ed0 o (o + q - 1) p (p + r - 1), ed1] 0).fOutLow) = false by rw [g1, g2]; exact decide_eq_false c, cond_false]
        refine gdI (l2 _ _) (gdI (l2 _ _) ?_)
        exact second (o + q - 1) (.inr ⟨by omega, by omega⟩) _ fun l => rfl
end Go.Proofs.YthmdmchmmgmblaaGreat
