/- The pure laws: what the pure functions answer; the law of the row about them. -/
import Derived.Test.YthmdmchmmgmblaaGreatXaD
namespace Go.Proofs.YthmdmchmmgmblaaGreat
open Go Go.Abs

/-- It answers, and what it answers is so. -/
def Out {R : Type} (x : Option R) (P : R → Prop) : Prop := ∃ r, x = some r ∧ P r
theorem Out.some {R : Type} {r : R} {P : R → Prop} (h : P r) : Out (some r) P := ⟨r, rfl, h⟩
theorem Out.bind {R S : Type} {x : Option R} {f : R → Option S} {P : R → Prop} {Q : S → Prop} (h : Out x P) (g : ∀ r, P r → Out (f r) Q) : Out (x.bind f) Q := by
  obtain ⟨r, rfl, hr⟩ := h; exact g r hr
theorem Out.eq {R : Type} {x : Option R} {r : R} (h : Out x (· = r)) : x = Option.some r := by obtain ⟨t, rfl, rfl⟩ := h; rfl
theorem Out.mono {R : Type} {x : Option R} {P Q : R → Prop} (h : Out x P) (g : ∀ r, P r → Q r) : Out x Q := by obtain ⟨r, e, hr⟩ := h; exact ⟨r, e, g r hr⟩
theorem gd {R : Type} {p : Prop} [Decidable p] (h : p) (x : Option R) : (if p then x else none) = x := if_pos h

theorem loop1_out {R : Type} {b : (Int → Option R) → Int → Option R} {I : Nat → Prop} {P : Nat → R → Prop} (n : Nat)
    (hend : I n → ∀ rec, Out (b rec (n : Int)) (P n))
    (hstep : ∀ i, i < n → I i → ∀ rec : Int → Option R, (I (i + 1) → Out (rec ((i : Int) + 1)) (P (i + 1))) → Out (b rec (i : Int)) (P i)) :
    ∀ k i : Nat, i ≤ n → n < k + i → I i → Out (loop1 k b (i : Int)) (P i)
  | 0, i, h, hk, _ => by omega
  | k + 1, i, h, hk, hi => by
    rcases Nat.lt_or_ge i n with hl | hl
    · refine hstep i hl hi _ fun hI => ?_
      have := loop1_out n hend hstep k (i + 1) hl (by omega) hI
      simpa using this
    · have : i = n := by omega
      subst this
      exact hend hi _

theorem loop1_eq {R : Type} {b : (Int → Option R) → Int → Option R} (F : Nat → R) (n : Nat)
    (hend : ∀ rec, b rec (n : Int) = some (F n))
    (hstep : ∀ i, i < n → ∀ rec : Int → Option R, rec ((i : Int) + 1) = some (F (i + 1)) → b rec (i : Int) = some (F i))
    {k i : Nat} (hi : i ≤ n) (hk : n < k + i) : loop1 k b (i : Int) = some (F i) :=
  (loop1_out (I := fun _ => True) (P := fun i r => r = F i) n (fun _ rec => ⟨_, hend rec, rfl⟩)
    (fun i hi _ rec h => ⟨_, hstep i hi rec (h trivial).eq, rfl⟩) k i hi hk trivial).eq

/-- Loops with one more thing that goes along ahead of the number. -/
theorem loop2_out {S R : Type} {b : (S → Int → Option R) → S → Int → Option R} {P : S → Nat → R → Prop} {I : S → Nat → Prop} (n : Nat)
    (hend : ∀ s, I s n → ∀ rec, Out (b rec s (n : Int)) (P s n))
    (hstep : ∀ s i, i < n → I s i → ∀ rec : S → Int → Option R, (∀ s', I s' (i + 1) → Out (rec s' ((i : Int) + 1)) (P s' (i + 1))) → Out (b rec s (i : Int)) (P s i)) :
    ∀ (k i : Nat) (s : S), i ≤ n → n < k + i → I s i → Out (loop2 k b s (i : Int)) (P s i)
  | 0, i, s, h, hk, _ => by omega
  | k + 1, i, s, h, hk, hi => by
    rcases Nat.lt_or_ge i n with hl | hl
    · refine hstep s i hl hi _ fun s' hI => ?_
      have := loop2_out n hend hstep k (i + 1) s' hl (by omega) hI
      simpa using this
    · have : i = n := by omega
      subst this
      exact hend s hi _

/-! ### Scans -/
def scanF (e : Nat → Int) : Nat → Nat → Int
  | _, 0 => 0
  | i, d + 1 => bif e i != 0 then e i else scanF e (i + 1) d
def scan (e : Nat → Int) (i n : Nat) : Int := scanF e i (n - i)
theorem scan_end {e : Nat → Int} {n : Nat} : scan e n n = 0 := by simp [scan, scanF]
theorem scan_step {e : Nat → Int} {i n : Nat} (h : i < n) : scan e i n = bif e i != 0 then e i else scan e (i + 1) n := by
  have : n - i = (n - (i + 1)) + 1 := by omega
  unfold scan; rw [this]; rfl
theorem scan_zero {e : Nat → Int} {n : Nat} : ∀ {i : Nat}, scan e i n = 0 → ∀ j, i ≤ j → j < n → e j = 0 := by
  intro i
  induction hd : n - i generalizing i with
  | zero => intro _ j h1 h2; omega
  | succ d ih =>
    intro h j h1 h2
    rw [scan_step (by omega)] at h
    by_cases he : e i = 0
    · rcases Nat.eq_or_lt_of_le h1 with rfl | h3
      · exact he
      · simp [he] at h
        exact ih (i := i + 1) (by omega) h j h3 h2
    · exfalso
      have : (e i != 0) = true := by simp [he]
      rw [this] at h; exact he h

def anyF (p : Nat → Bool) : Nat → Nat → Bool
  | _, 0 => false
  | i, d + 1 => p i || anyF p (i + 1) d
def anyN (p : Nat → Bool) (i n : Nat) : Bool := anyF p i (n - i)
theorem anyN_end {p : Nat → Bool} {n : Nat} : anyN p n n = false := by simp [anyN, anyF]
theorem anyN_step {p : Nat → Bool} {i n : Nat} (h : i < n) : anyN p i n = (p i || anyN p (i + 1) n) := by
  have : n - i = (n - (i + 1)) + 1 := by omega
  unfold anyN; rw [this]; rfl
theorem anyN_iff {p : Nat → Bool} {n : Nat} : ∀ {i : Nat}, anyN p i n = true ↔ ∃ j, i ≤ j ∧ j < n ∧ p j = true := by
  intro i
  induction hd : n - i generalizing i with
  | zero =>
    have : anyN p i n = false := by simp [anyN, anyF, hd]
    rw [this]; constructor
    · intro h; cases h
    · rintro ⟨j, h1, h2, _⟩; omega
  | succ d ih =>
    rw [anyN_step (by omega), Bool.or_eq_true, ih (i := i + 1) (by omega)]
    constructor
    · rintro (h | ⟨j, h1, h2, h3⟩)
      · exact ⟨i, Nat.le_refl _, by omega, h⟩
      · exact ⟨j, by omega, h2, h3⟩
    · rintro ⟨j, h1, h2, h3⟩
      rcases Nat.eq_or_lt_of_le h1 with rfl | h4
      · exact .inl h3
      · exact .inr ⟨j, h4, h2, h3⟩
theorem anyN_congr {p q : Nat → Bool} {i n : Nat} (h : ∀ j, i ≤ j → j < n → p j = q j) : anyN p i n = anyN q i n := by
  rw [Bool.eq_iff_iff, anyN_iff, anyN_iff]
  exact ⟨fun ⟨j, a, b, c⟩ => ⟨j, a, b, h j a b ▸ c⟩, fun ⟨j, a, b, c⟩ => ⟨j, a, b, (h j a b).symm ▸ c⟩⟩

theorem inR_of {x : Int} (h : -9223372036854775808 ≤ x ∧ x ≤ 9223372036854775807) : inR x := h
theorem inR_nat {n : Nat} (h : n ≤ 1000000) : inR ((n : Int) + 1) := by unfold inR; omega
theorem rd_take {α : Type} [Inhabited α] {l : List α} {i j : Nat} (h : j < i) : rd (l.take i) (j : Int) = rd l (j : Int) := by
  simp [rd, List.getD, List.getElem?_take, h]
theorem rd_mem {α : Type} [Inhabited α] {l : List α} {x : Int} (h0 : 0 ≤ x) (h : x < (l.length : Int)) : rd l x ∈ l := by
  have : x.toNat < l.length := by omega
  simp [rd, List.getD, List.getElem?_eq_getElem this]

/-! ### Is there one? -/
def ixb {α : Type} [Inhabited α] (a0 : List α) (a1 : α → Option Bool) (rec0 : Int → Option Int) (x8 : Int) : Option Int :=
  (bif (decide (x8 < (a0.length : Int))) then (if (0 : Int) ≤ x8 ∧ x8 < (a0.length : Int) then ((a1 (rd a0 x8)).bind fun t32 => (bif t32 then (some x8) else (if inR (x8 + 1) then (rec0 (x8 + 1)) else none))) else none) else (some (-1)))
theorem ix_contains {α : Type} [Inhabited α] (l : List α) (f : α → Option Bool) (p : Nat → Bool) (k : Nat) (hk : l.length < k) (hl : l.length ≤ 1000000)
    (hf : ∀ j, j < l.length → f (rd l (j : Int)) = some (p j)) :
    ((loop1 k (ixb l f) 0).bind fun t => some (decide (t ≥ 0))) = some (anyN p 0 l.length) := by
  obtain ⟨r, e, h⟩ := loop1_out (I := fun _ => True) (P := fun i r => decide (r ≥ 0) = anyN p i l.length) (b := ixb l f) l.length
    (fun _ rec => ⟨-1, by simp [ixb], by rw [anyN_end]; decide⟩)
    (fun i hi _ rec ih => by
      rw [anyN_step hi]
      simp only [ixb, hf i hi, Option.bind_some]
      rw [gd (inR_nat (by omega)), gd (by omega)]
      have : decide ((i : Int) < (l.length : Int)) = true := by simp [hi]
      rw [this, cond_true]
      cases hp : p i with
      | true => exact ⟨_, rfl, by simp⟩
      | false => simpa using ih trivial)
    k 0 (Nat.zero_le _) (by omega) trivial
  have e' : loop1 k (ixb l f) 0 = some r := e
  rw [e', Option.bind_some, h]
theorem ContainsFunc_int {k : Nat} (l : List Int) (f : Int → Option Bool) (p : Nat → Bool) (hk : l.length < k) (hl : l.length ≤ 1000000)
    (hf : ∀ j, j < l.length → f (rd l (j : Int)) = some (p j)) : slices_ContainsFunc_int k l f = some (anyN p 0 l.length) := ix_contains l f p k hk hl hf
theorem ContainsFunc_Edge {k : Nat} (l : List Edge) (f : Edge → Option Bool) (p : Nat → Bool) (hk : l.length < k) (hl : l.length ≤ 1000000)
    (hf : ∀ j, j < l.length → f (rd l (j : Int)) = some (p j)) : slices_ContainsFunc_Edge k l f = some (anyN p 0 l.length) := ix_contains l f p k hk hl hf
theorem ContainsFunc_NodeType {k : Nat} (l : List NodeType) (f : NodeType → Option Bool) (p : Nat → Bool) (hk : l.length < k) (hl : l.length ≤ 1000000)
    (hf : ∀ j, j < l.length → f (rd l (j : Int)) = some (p j)) : slices_ContainsFunc_NodeType k l f = some (anyN p 0 l.length) := ix_contains l f p k hk hl hf
theorem ContainsFunc_Attr {k : Nat} (l : List Attr) (f : Attr → Option Bool) (p : Nat → Bool) (hk : l.length < k) (hl : l.length ≤ 1000000)
    (hf : ∀ j, j < l.length → f (rd l (j : Int)) = some (p j)) : slices_ContainsFunc_Attr k l f = some (anyN p 0 l.length) := ix_contains l f p k hk hl hf
theorem ContainsFunc_EdgeType {k : Nat} (l : List EdgeType) (f : EdgeType → Option Bool) (p : Nat → Bool) (hk : l.length < k) (hl : l.length ≤ 1000000)
    (hf : ∀ j, j < l.length → f (rd l (j : Int)) = some (p j)) : slices_ContainsFunc_EdgeType k l f = some (anyN p 0 l.length) := ix_contains l f p k hk hl hf
theorem Contains_string {k : Nat} (l : List Str) (a : Str) (hk : l.length < k) (hl : l.length ≤ 1000000) :
    slices_Contains_string k l a = some (anyN (fun j => a == rd l (j : Int)) 0 l.length) := ix_contains l (fun x => some (a == x)) _ k hk hl (fun _ _ => rfl)
theorem Contains_int {k : Nat} (l : List Int) (a : Int) (hk : l.length < k) (hl : l.length ≤ 1000000) :
    slices_Contains_int k l a = some (anyN (fun j => a == rd l (j : Int)) 0 l.length) := ix_contains l (fun x => some (a == x)) _ k hk hl (fun _ _ => rfl)
end Go.Proofs.YthmdmchmmgmblaaGreat

namespace Go.Proofs.YthmdmchmmgmblaaGreat
open Go Go.Abs

def letterB (c : Int) : Bool := (decide (c ≥ 97) && decide (c ≤ 122)) || (decide (c ≥ 65) && decide (c ≤ 90))
def digitB (c : Int) : Bool := decide (c ≥ 48) && decide (c ≤ 57)
def partB (c : Int) : Bool := (letterB c || digitB c) || c == 95
theorem token_letter_eq {k : Nat} (c : Int) : token_letter k c = some (letterB c) := by
  simp only [token_letter, jn, letterB]
  cases decide (c ≥ 97) <;> cases decide (c ≤ 122) <;> cases decide (c ≥ 65) <;> rfl
theorem ref01_letter_eq {k : Nat} (c : Int) : ref01_letter k c = some (letterB c) := by
  simp only [ref01_letter, jn, letterB]
  cases decide (c ≥ 97) <;> cases decide (c ≤ 122) <;> cases decide (c ≥ 65) <;> rfl
theorem token_digit_eq {k : Nat} (c : Int) : token_digit k c = some (digitB c) := by
  simp only [token_digit, jn, digitB]
  cases decide (c ≥ 48) <;> rfl
theorem ref01_digit_eq {k : Nat} (c : Int) : ref01_digit k c = some (digitB c) := by
  simp only [ref01_digit, jn, digitB]
  cases decide (c ≥ 48) <;> rfl
theorem token_part_eq {k : Nat} (c : Int) : token_part k c = some (partB c) := by
  simp only [token_part, jn, partB, token_letter_eq, token_digit_eq, Option.bind_some]
  cases letterB c <;> cases digitB c <;> rfl
theorem letter_not_digit {c : Int} (h : letterB c = true) : digitB c = false := by
  simp only [letterB, digitB, Bool.or_eq_true, Bool.and_eq_true, decide_eq_true_eq, Bool.and_eq_false_iff, decide_eq_false_iff_not] at *
  omega

def stopF (p : Nat → Bool) : Nat → Nat → Nat
  | i, 0 => i
  | i, d + 1 => bif p i then stopF p (i + 1) d else i
def stopN (p : Nat → Bool) (i n : Nat) : Nat := stopF p i (n - i)
theorem stopN_end {p : Nat → Bool} {n : Nat} : stopN p n n = n := by simp [stopN, stopF]
theorem stopN_step {p : Nat → Bool} {i n : Nat} (h : i < n) : stopN p i n = bif p i then stopN p (i + 1) n else i := by
  have : n - i = (n - (i + 1)) + 1 := by omega
  unfold stopN; rw [this]; rfl
theorem stopF_le {p : Nat → Bool} : ∀ {d i : Nat}, stopF p i d ≤ i + d
  | 0, i => by simp [stopF]
  | d + 1, i => by
    have := stopF_le (p := p) (d := d) (i := i + 1)
    unfold stopF; cases p i <;> simp <;> omega
theorem stopN_le {p : Nat → Bool} {n : Nat} : stopN p 0 n ≤ n := by have := stopF_le (p := p) (d := n) (i := 0); simpa [stopN] using this
theorem stopN_congr {p q : Nat → Bool} {n : Nat} : ∀ {i : Nat}, (∀ j, p j = q j) → stopN p i n = stopN q i n := by
  intro i h; have : p = q := funext h; rw [this]

theorem token_run_eq {k : Nat} (s : Str) (f : Int → Option Bool) (p : Nat → Bool) (hk : s.length < k) (hs : s.length ≤ 1000000)
    (hf : ∀ j, j < s.length → f (bt s (j : Int)) = some (p j)) : token_run k s f = some (stopN p 0 s.length : Int) := by
  refine loop1_eq (fun i => (stopN p i s.length : Int)) s.length (fun rec => ?_) (fun i hi rec ih => ?_) (Nat.zero_le _) (by omega)
  · simp [token_run.b0, jn, stopN_end]
  · rw [stopN_step hi]
    simp only [token_run.b0, jn, hf i hi, Option.bind_some]
    have : decide ((i : Int) < (s.length : Int)) = true := by simp [hi]
    rw [this, cond_true, gd (by omega), gd (inR_nat (by omega))]
    cases p i <;> simp [ih]
theorem ref01_run_eq {k : Nat} (s : Str) (dg : Bool) (hk : s.length < k) (hs : s.length ≤ 1000000) :
    ref01_run k s 0 dg = some (stopN (fun j => digitB (bt s (j : Int)) || (!dg && (letterB (bt s (j : Int)) || (bt s (j : Int)) == 95))) 0 s.length : Int) := by
  refine loop1_eq (fun i => (stopN _ i s.length : Int)) s.length (fun rec => ?_) (fun i hi rec ih => ?_) (Nat.zero_le _) (by omega)
  · simp only [ref01_run.b0, jn, stopN_end, Int.zero_add]
    rw [gd (inR_of (by omega))]
    simp
  · rw [stopN_step hi]
    have : decide ((i : Int) < (s.length : Int)) = true := by simp [hi]
    have h1 : inR (i : Int) := inR_of (by omega)
    have h2 : (0 : Int) ≤ (i : Int) ∧ (i : Int) < (s.length : Int) := by omega
    simp only [ref01_run.b0, jn, Int.zero_add, gd h1, gd h2, this, cond_true, ref01_digit_eq, ref01_letter_eq, Option.bind_some, gd (inR_nat (n := i) (by omega)), ih]
    cases digitB (bt s (i : Int)) <;> cases dg <;> cases letterB (bt s (i : Int)) <;> cases (bt s (i : Int) == 95) <;> rfl

def isNameB (s : Str) : Bool := (s != []) && (letterB (bt s 0) && (decide (stopN (fun j => partB (bt s (j : Int))) 0 s.length ≤ 20) && stopN (fun j => partB (bt s (j : Int))) 0 s.length == s.length))

theorem token_quoted_out {k : Nat} (s : Str) (h0 : 1 ≤ s.length) (hk : s.length < k) (hs : s.length ≤ 1000000) : Out (token_quoted k s) (fun _ => True) := by
  unfold token_quoted
  rw [gd (by omega)]
  have hd : (s.drop (1 : Int).toNat).length = s.length - 1 := by simp
  refine Out.bind (P := fun r => 0 ≤ r ∧ r ≤ (s.length : Int) - 1) ⟨_, token_run_eq (p := fun j => (decide (bt (s.drop (1 : Int).toNat) (j : Int) ≥ 32) && (decide (bt (s.drop (1 : Int).toNat) (j : Int) ≤ 126) && (bt (s.drop (1 : Int).toNat) (j : Int)) != 34))) _ _ (by omega) (by omega) (fun j _ => ?_), ?_⟩ fun r hr => ?_
  · simp only [token_quoted_1, jn]
    cases decide (bt (s.drop (1 : Int).toNat) (j : Int) ≥ 32) <;> cases decide (bt (s.drop (1 : Int).toNat) (j : Int) ≤ 126) <;> rfl
  · refine ⟨by omega, ?_⟩
    have h := stopN_le (p := fun j => (decide (bt (s.drop (1 : Int).toNat) (j : Int) ≥ 32) && (decide (bt (s.drop (1 : Int).toNat) (j : Int) ≤ 126) && (bt (s.drop (1 : Int).toNat) (j : Int)) != 34))) (n := (s.drop (1 : Int).toNat).length)
    rw [hd] at h ⊢
    omega
  · simp only [jn]
    rw [gd (inR_of (by omega))]
    cases hb : (1 + r == (s.length : Int)) with
    | true => exact ⟨_, rfl, trivial⟩
    | false =>
      have : 1 + r ≠ (s.length : Int) := by simpa using hb
      rw [cond_false, gd (inR_of (by omega)), gd (by omega)]
      cases (bt s (1 + r) != 34) with
      | true => exact ⟨_, rfl, trivial⟩
      | false =>
        rw [cond_false]
        cases decide (r > 60) with
        | true => exact ⟨_, rfl, trivial⟩
        | false => rw [cond_false, gd (inR_of (by omega))]; exact ⟨_, rfl, trivial⟩
theorem token_pair_out {k : Nat} (s : Str) (hk : 10 ≤ k) : Out (token_pair k s) (fun _ => True) := by
  unfold token_pair; simp only [jn]
  cases hb : decide ((s.length : Int) ≥ 2) with
  | false => exact ⟨_, rfl, trivial⟩
  | true =>
    simp at hb
    rw [cond_true, gd (by omega), Contains_string _ _ (by simp; omega) (by simp)]
    exact ⟨_, rfl, trivial⟩
theorem token_next_out {k : Nat} (s : Str) (h0 : 1 ≤ s.length) (hk : s.length < k) (hk' : 10 ≤ k) (hs : s.length ≤ 1000000) (hl : letterB (bt s 0) = false) :
    Out (token_next k s) (fun r => r.2.2 ≠ 0 ∨ r.1 ≠ 1) := by
  unfold token_next
  rw [gd (by omega), token_letter_eq, Option.bind_some, hl, cond_false, token_digit_eq, Option.bind_some]
  cases digitB (bt s 0) with
  | true =>
    rw [cond_true, token_run_eq (p := fun j => digitB (bt s (j : Int))) _ _ hk hs (fun j _ => token_digit_eq _), Option.bind_some]
    cases decide ((stopN (fun j => digitB (bt s (j : Int))) 0 s.length : Int) > 9)
    · exact ⟨_, rfl, .inr (by simp)⟩
    · exact ⟨_, rfl, .inl (by simp)⟩
  | false =>
    rw [cond_false]
    cases (bt s 0 == 34) with
    | true => rw [cond_true]; exact Out.bind (token_quoted_out s h0 hk hs) fun r _ => ⟨_, rfl, .inr (by simp)⟩
    | false =>
      rw [cond_false]
      refine Out.bind (token_pair_out s hk') fun r _ => ?_
      cases r with
      | true => exact ⟨_, rfl, .inr (by simp)⟩
      | false =>
        simp only [cond_false, strings_IndexByte, stringslite_IndexByte, Option.bind_some]
        generalize decide (_ ≥ (0 : Int)) = b
        cases b
        · exact ⟨_, rfl, .inl (by decide)⟩
        · exact ⟨_, rfl, .inr (by decide)⟩

theorem token_IsName_eq {k : Nat} (hk : 200 ≤ k) (s : Str) (hs : s.length ≤ 100) : token_IsName k s = some (isNameB s) := by
  unfold token_IsName token_whole jn; dsimp only
  rw [show ((1 : Int) == 3) = false from rfl, cond_false]
  cases s with
  | nil => simp [isNameB]
  | cons c t =>
    rw [show (((c :: t : Str) == ([] : Str))) = false from rfl, cond_false]
    generalize hS : (c :: t : Str) = s at *
    have h0 : 1 ≤ s.length := by subst hS; simp
    have hne : (s != []) = true := by subst hS; rfl
    cases hl : letterB (bt s 0) with
    | true =>
      unfold token_next
      rw [gd (by omega), token_letter_eq, Option.bind_some, hl, cond_true, token_run_eq (p := fun j => partB (bt s (j : Int))) _ _ (by omega) (by omega) (fun j _ => token_part_eq _), Option.bind_some]
      simp only [isNameB, hne, hl, Bool.true_and]
      by_cases hg : stopN (fun j => partB (bt s (j : Int))) 0 s.length ≤ 20
      · have h1 : decide ((stopN (fun j => partB (bt s (j : Int))) 0 s.length : Int) > 20) = false := by simp; omega
        rw [h1, cond_false, decide_eq_true hg]
        simp only [Option.bind_some, Bool.true_and, beq_self_eq_true, cond_true]
        congr 1
        rw [Bool.eq_iff_iff, beq_iff_eq, beq_iff_eq]; omega
      · have h1 : decide ((stopN (fun j => partB (bt s (j : Int))) 0 s.length : Int) > 20) = true := by simp; omega
        rw [h1, cond_true, decide_eq_false hg]
        rfl
    | false =>
      obtain ⟨r, e, h⟩ := token_next_out (k := k) s h0 (by omega) (by omega) (by omega) hl
      rw [e, Option.bind_some]
      simp only [isNameB, hne, hl, Bool.true_and, Bool.false_and]
      rcases h with h | h
      · have : (r.2.2 == 0) = false := by simp [h]
        rw [this]; rfl
      · have : (r.1 == 1) = false := by simp [h]
        rw [this]; cases (r.2.2 == 0) <;> rfl

theorem ref01_quoted_out {k : Nat} (s : Str) (h0 : 1 ≤ s.length) (hk : s.length < k) (hs : s.length ≤ 1000000) : Out (ref01_quoted k s 0) (fun r => r = 0 ∨ (2 ≤ r ∧ r ≤ (s.length : Int))) := by
  refine loop1_out (I := fun i => 1 ≤ i) (P := fun _ r => r = 0 ∨ (2 ≤ r ∧ r ≤ (s.length : Int))) s.length (fun _ rec => ?_) (fun i hi h1 rec ih => ?_) k 1 h0 (by omega) (by omega)
  · simp only [ref01_quoted.b0, jn, Int.zero_add]
    rw [gd (inR_of (by omega))]
    refine ⟨0, by simp, .inl rfl⟩
  · have : decide ((i : Int) < (s.length : Int)) = true := by simp [hi]
    have g1 : inR (i : Int) := inR_of (by omega)
    have g2 : (0 : Int) ≤ (i : Int) ∧ (i : Int) < (s.length : Int) := by omega
    simp only [ref01_quoted.b0, jn, Int.zero_add, gd g1, gd g2, this, cond_true, gd (inR_nat (n := i) (by omega))]
    cases (bt s (i : Int) == 34) with
    | true => exact ⟨_, rfl, .inr (by omega)⟩
    | false =>
      rw [cond_false]
      cases decide (bt s (i : Int) < 32) with
      | true => exact ⟨_, rfl, .inl rfl⟩
      | false =>
        cases decide (bt s (i : Int) > 126) with
        | true => exact ⟨_, rfl, .inl rfl⟩
        | false => exact ih (by omega)
theorem ref01_one_out {k : Nat} (s : Str) (h0 : 1 ≤ s.length) (hk : s.length < k) (hk' : 100 ≤ k) (hs : s.length ≤ 1000000) (hl : letterB (bt s 0) = false) :
    Out (ref01_one k s 0) (fun r => r.2.2 ≠ 0 ∨ r.1.fKind ≠ 1) := by
  unfold ref01_one; simp only [jn]
  rw [gd (by omega)]
  simp only [ref01_letter_eq, ref01_digit_eq, Option.bind_some, hl, cond_false]
  cases hd : digitB (bt s 0) with
  | true =>
    rw [cond_true, ref01_run_eq _ _ hk hs, Option.bind_some]
    have hle := stopN_le (p := fun j => digitB (bt s (j : Int)) || (!true && (letterB (bt s (j : Int)) || (bt s (j : Int)) == 95))) (n := s.length)
    generalize hn : stopN (fun j => digitB (bt s (j : Int)) || (!true && (letterB (bt s (j : Int)) || (bt s (j : Int)) == 95))) 0 s.length = n at *
    rw [cond_true]
    cases decide ((n : Int) > 9) with
    | true => exact ⟨_, rfl, .inl (by simp)⟩
    | false =>
      rw [cond_false, gd (inR_of (by omega)), gd (by omega)]
      exact ⟨_, rfl, .inr (by simp)⟩
  | false =>
    rw [cond_false]
    cases (bt s 0 == 34) with
    | true =>
      rw [cond_true]
      refine Out.bind (ref01_quoted_out s h0 hk hs) fun r hr => ?_
      cases hz : (r == 0) with
      | true => exact ⟨_, rfl, .inl (by simp)⟩
      | false =>
        have hz' : r ≠ 0 := by simpa using hz
        rw [cond_false, gd (inR_of (by omega))]
        cases decide (r - 2 > 60) with
        | true => exact ⟨_, rfl, .inl (by simp)⟩
        | false =>
          rw [cond_false, gd (inR_of (by omega)), gd (inR_of (by omega)), gd (inR_of (by omega)), gd (by omega)]
          exact ⟨_, rfl, .inr (by simp)⟩
    | false =>
      rw [cond_false, ref01_signs, Option.bind_some]
      generalize hL : ([([45, 62] : Str), ([60, 61] : Str), ([62, 61] : Str), ([61, 61] : Str), ([33, 61] : Str), ([123] : Str), ([125] : Str), ([40] : Str), ([41] : Str), ([91] : Str), ([93] : Str), ([44] : Str), ([59] : Str), ([58] : Str), ([61] : Str), ([43] : Str), ([45] : Str), ([42] : Str), ([60] : Str), ([62] : Str), ([33] : Str), ([38] : Str), ([124] : Str), ([46] : Str), ([63] : Str)] : List Str) = L
      have hLl : L.length = 25 := by subst hL; rfl
      have hLe : ∀ x ∈ L, x.length ≤ 2 := by subst hL; decide
      refine loop1_out (I := fun _ => True) (P := fun _ (r : Token × Int × Int) => r.2.2 ≠ 0 ∨ r.1.fKind ≠ 1) L.length (fun _ rec => ?_) (fun i hi h1 rec ih => ?_) k 0 (Nat.zero_le _) (by omega) trivial
      · exact ⟨(Token.mk 0 [] 0, 0, 2), by simp [ref01_one.b0], .inl (by simp)⟩
      · have : decide ((i : Int) < (L.length : Int)) = true := by simp [hi]
        have g2 : (0 : Int) ≤ (i : Int) ∧ (i : Int) < (L.length : Int) := by omega
        have g3 := hLe _ (rd_mem g2.1 g2.2)
        have g4 : inR ((rd L (i : Int)).length : Int) := inR_of (by omega)
        simp only [ref01_one.b0, jn, Int.zero_add, gd g2, this, cond_true, gd (inR_nat (n := i) (by omega)), gd g4]
        cases hb : decide (((rd L (i : Int)).length : Int) ≤ (s.length : Int)) with
        | false => rw [cond_false, cond_false]; exact ih trivial
        | true =>
          have hb' : ((rd L (i : Int)).length : Int) ≤ (s.length : Int) := by simpa using hb
          rw [cond_true, gd (by omega)]
          generalize (List.drop _ (s.take _) == rd L (i : Int)) = q
          cases q with
          | true => exact ⟨_, rfl, .inr (by simp)⟩
          | false => exact ih trivial
theorem ref01_IsName_eq {k : Nat} (hk : 200 ≤ k) (s : Str) (hs : s.length ≤ 100) : ref01_IsName k s = some (isNameB s) := by
  unfold ref01_IsName ref01_Right ref01_text
  rw [show ((1 : Int) == 3) = false from rfl, cond_false, Option.bind_some]
  cases s with
  | nil => simp [isNameB]
  | cons c t =>
    rw [show (((c :: t : Str) == ([] : Str))) = false from rfl, cond_false]
    generalize hS : (c :: t : Str) = s at *
    have h0 : 1 ≤ s.length := by subst hS; simp
    have hne : (s != []) = true := by subst hS; rfl
    cases hl : letterB (bt s 0) with
    | true =>
      unfold ref01_one; simp only [jn]
      rw [gd (by omega)]
      simp only [ref01_letter_eq, ref01_digit_eq, Option.bind_some, hl, cond_true, letter_not_digit hl, cond_false]
      rw [ref01_run_eq _ _ (by omega) (by omega), Option.bind_some]
      have hc := stopN_congr (p := fun j => digitB (bt s (j : Int)) || (!false && (letterB (bt s (j : Int)) || (bt s (j : Int)) == 95))) (q := fun j => partB (bt s (j : Int))) (n := s.length) (i := 0)
        (fun j => by simp only [partB]; cases digitB (bt s (j : Int)) <;> cases letterB (bt s (j : Int)) <;> rfl)
      rw [hc]
      have hle := stopN_le (p := fun j => partB (bt s (j : Int))) (n := s.length)
      simp only [isNameB, hne, hl, Bool.true_and]
      generalize stopN (fun j => partB (bt s (j : Int))) 0 s.length = n at *
      by_cases hg : n ≤ 20
      · have h1 : decide ((n : Int) > 20) = false := by simp; omega
        rw [h1, cond_false, decide_eq_true hg, gd (inR_of (by omega)), gd (by omega)]
        simp only [Option.bind_some, Bool.true_and, beq_self_eq_true, cond_true]
        have h2 : ((n : Int) == (s.length : Int)) = (n == s.length) := by rw [Bool.eq_iff_iff, beq_iff_eq, beq_iff_eq]; omega
        rw [h2]; cases (n == s.length) <;> rfl
      · have h1 : decide ((n : Int) > 20) = true := by simp; omega
        rw [h1, cond_true, decide_eq_false hg]
        rfl
    | false =>
      obtain ⟨r, e, h⟩ := ref01_one_out (k := k) s h0 (by omega) (by omega) (by omega) hl
      rw [e, Option.bind_some]
      simp only [jn, isNameB, hne, hl, Bool.true_and, Bool.false_and]
      rcases h with h | h
      · have : (r.2.2 == 0) = false := by simp [h]
        rw [this]; rfl
      · have : (r.1.fKind == 1) = false := by simp [h]
        rw [this]; cases (r.2.2 == 0) <;> cases (r.2.1 == (s.length : Int)) <;> rfl
end Go.Proofs.YthmdmchmmgmblaaGreat

namespace Go.Proofs.YthmdmchmmgmblaaGreat
open Go Go.Abs

structure FewA (x : Attr) : Prop where
  name : x.fName.length ≤ 40
  names : x.fNames.length ≤ 25
  each : ∀ s ∈ x.fNames, s.length ≤ 40
structure FewT (t : Types) : Prop where
  nodes : t.fNodes.length ≤ 20
  edges : t.fEdges.length ≤ 30
  nname : ∀ n ∈ t.fNodes, n.fName.length ≤ 40
  nattr : ∀ n ∈ t.fNodes, n.fAttrs.length ≤ 30
  attr : ∀ n ∈ t.fNodes, ∀ x ∈ n.fAttrs, FewA x
  ename : ∀ x ∈ t.fEdges, x.fName.length ≤ 40

def namesErr (l : List Str) (i : Nat) : Int := bif !isNameB (rd l (i : Int)) then 2 else bif anyN (fun j => rd l (j : Int) == rd l (i : Int)) 0 i then 5 else 0
def namesS (l : List Str) : Int := bif decide ((l.length : Int) > 20) then 3 else scan (namesErr l) 0 l.length
theorem types_names_eq {k : Nat} (hk : 200 ≤ k) (l : List Str) (hl : ∀ s ∈ l, s.length ≤ 100) : types_names k l = some (namesS l) := by
  unfold types_names namesS
  cases hb : decide ((l.length : Int) > 20) with
  | true => rfl
  | false =>
    simp at hb
    rw [cond_false, cond_false]
    refine loop1_eq (fun i => scan (namesErr l) i l.length) l.length (fun rec => ?_) (fun i hi rec ih => ?_) (Nat.zero_le _) (by omega)
    · simp [types_names.b0, scan_end]
    · rw [scan_step hi]
      have h1 : decide ((i : Int) < (l.length : Int)) = true := by simp [hi]
      have h2 : (0 : Int) ≤ (i : Int) ∧ (i : Int) < (l.length : Int) := by omega
      have h3 : (l.take (i : Int).toNat).length = i := by simp; omega
      have h4 := token_IsName_eq (k := k) hk (rd l (i : Int)) (hl _ (rd_mem h2.1 h2.2))
      have h5 := Contains_string (k := k) (l.take (i : Int).toNat) (rd l (i : Int)) (by omega) (by omega)
      rw [h3] at h5
      rw [anyN_congr (q := fun j => rd l (j : Int) == rd l (i : Int)) (fun j _ hj => by rw [show (i : Int).toNat = i from rfl, rd_take hj, Bool.beq_comm])] at h5
      simp only [types_names.b0, h1, cond_true, gd h2, h4, Option.bind_some, gd (show (0 : Int) ≤ (i : Int) ∧ (i : Int) ≤ (l.length : Int) by omega), h5, gd (inR_nat (n := i) (by omega)), ih, namesErr]
      cases isNameB (rd l (i : Int)) <;> cases anyN (fun j => rd l (j : Int) == rd l (i : Int)) 0 i <;> rfl
theorem ref04_names_eq {k : Nat} (hk : 200 ≤ k) (l : List Str) (hl : ∀ s ∈ l, s.length ≤ 100) : ref04_names k l = some (namesS l) := by
  unfold ref04_names namesS
  cases hb : decide ((l.length : Int) > 20) with
  | true => rfl
  | false =>
    simp at hb
    rw [cond_false, cond_false]
    refine loop1_eq (fun i => scan (namesErr l) i l.length) l.length (fun rec => ?_) (fun i hi rec ih => ?_) (Nat.zero_le _) (by omega)
    · simp only [ref04_names.b0, scan_end, show decide ((l.length : Int) < (l.length : Int)) = false by simp, cond_false]
    · rw [scan_step hi]
      have h1 : decide ((i : Int) < (l.length : Int)) = true := by simp [hi]
      have h2 : (0 : Int) ≤ (i : Int) ∧ (i : Int) < (l.length : Int) := by omega
      have h4 := ref01_IsName_eq (k := k) hk (rd l (i : Int)) (hl _ (rd_mem h2.1 h2.2))
      have h5 : loop1 k (ref04_names.b1 l (i : Int) rec) ((0 : Nat) : Int) = some (bif anyN (fun j => rd l (j : Int) == rd l (i : Int)) 0 i then 5 else scan (namesErr l) (i + 1) l.length) := by
        refine loop1_eq (fun j => bif anyN (fun j => rd l (j : Int) == rd l (i : Int)) j i then 5 else scan (namesErr l) (i + 1) l.length) i (fun rec1 => ?_) (fun j hj rec1 ih1 => ?_) (Nat.zero_le _) (by omega)
        · simp only [ref04_names.b1, anyN_end, cond_false, gd (inR_nat (n := i) (by omega)), ih, show decide ((i : Int) < (i : Int)) = false by simp]
        · rw [anyN_step hj, ref04_names.b1, show decide ((j : Int) < (i : Int)) = true by simp [hj], cond_true, gd (show (0 : Int) ≤ (j : Int) ∧ (j : Int) < (l.length : Int) by omega), gd h2, gd (inR_nat (n := j) (by omega)), ih1]
          cases (rd l (j : Int) == rd l (i : Int)) with
          | true => rw [cond_true, Bool.true_or, cond_true]
          | false => rw [cond_false, Bool.false_or]
      have h6 : loop1 k (ref04_names.b1 l (i : Int) rec) 0 = _ := h5
      simp only [ref04_names.b0, h1, cond_true, gd h2, h4, Option.bind_some, h6, namesErr]
      cases isNameB (rd l (i : Int)) <;> cases anyN (fun j => rd l (j : Int) == rd l (i : Int)) 0 i <;> simp

def attrOwn (x : Attr) : Int :=
  bif namesS x.fNames != 0 then namesS x.fNames
  else bif decide ((x.fNames.length : Int) > 0) then (bif x.fLow == 0 && x.fHigh == (x.fNames.length : Int) - 1 then 0 else 6)
  else (bif decide (-1000000 ≤ x.fLow) && (decide (x.fLow ≤ x.fHigh) && decide (x.fHigh ≤ 1000000)) then 0 else 6)
def attrErr (all : List Attr) (i : Nat) : Int :=
  bif !isNameB (rd all (i : Int)).fName then 2 else bif anyN (fun j => (rd all (j : Int)).fName == (rd all (i : Int)).fName) 0 i then 5 else attrOwn (rd all (i : Int))
theorem types_attribute_eq {k : Nat} (hk : 200 ≤ k) (all : List Attr) (i : Nat) (hi : i < all.length) (hl : all.length ≤ 100) (hf : FewA (rd all (i : Int))) :
    types_attribute k (rd all (i : Int)) (all.take (i : Int).toNat) = some (attrErr all i) := by
  have h3 : (all.take (i : Int).toNat).length = i := by simp; omega
  have h4 := token_IsName_eq (k := k) hk (rd all (i : Int)).fName (by have := hf.name; omega)
  have h5 := ContainsFunc_Attr (k := k) (all.take (i : Int).toNat) (fun x => types_attribute_1 k x (rd all (i : Int))) _ (by omega) (by omega) (fun j _ => rfl)
  rw [h3, anyN_congr (q := fun j => (rd all (j : Int)).fName == (rd all (i : Int)).fName) (fun j _ hj => by rw [show (i : Int).toNat = i from rfl, rd_take hj])] at h5
  have h6 := types_names_eq (k := k) hk (rd all (i : Int)).fNames (fun s hs => by have := hf.each s hs; omega)
  unfold types_attribute attrErr attrOwn
  rw [h4, Option.bind_some, h5, Option.bind_some, h6, Option.bind_some]
  generalize rd all (i : Int) = x at *
  have hn := hf.names
  cases isNameB x.fName with
  | false => rfl
  | true =>
    cases anyN (fun j => (rd all (j : Int)).fName == x.fName) 0 i with
    | true => rfl
    | false =>
      cases hz : namesS x.fNames != 0 with
      | true => rfl
      | false =>
        simp only [jn, Bool.not_true, cond_false]
        cases decide ((x.fNames.length : Int) > 0) with
        | true =>
          simp only [cond_true, gd (inR_of (x := (x.fNames.length : Int) - 1) (by omega))]
          cases decide (-1000000 ≤ x.fLow) <;> cases decide (x.fLow ≤ x.fHigh) <;> cases (x.fLow == 0) <;> cases (x.fHigh == (x.fNames.length : Int) - 1) <;> rfl
        | false =>
          cases decide (-1000000 ≤ x.fLow) <;> cases decide (x.fLow ≤ x.fHigh) <;> cases decide (x.fHigh ≤ 1000000) <;> rfl
theorem ref04_in_eq {k : Nat} (a b c : Int) : ref04_in k a b c = some (decide (a ≥ b) && decide (a ≤ c)) := by
  simp only [ref04_in, jn]; cases decide (a ≥ b) <;> rfl
theorem ref04_attribute_eq {k : Nat} (hk : 200 ≤ k) (x : Attr) (hf : FewA x) : ref04_attribute k x = some (attrOwn x) := by
  have h6 := ref04_names_eq (k := k) hk x.fNames (fun s hs => by have := hf.each s hs; omega)
  unfold ref04_attribute attrOwn
  simp only [h6, jn, ref04_in_eq, Option.bind_some]
  have hn := hf.names
  cases hz : ((x.fNames.length : Int) == 0) with
  | true =>
    have hz' : x.fNames = [] := by
      have : (x.fNames.length : Int) = 0 := by simpa using hz
      exact List.length_eq_zero_iff.1 (by omega)
    rw [hz']
    have : namesS [] = 0 := rfl
    rw [this]
    simp only [bne_self_eq_false, cond_false, cond_true, List.length_nil]
    rw [show decide ((((0 : Nat) : Int)) > 0) = false from rfl, cond_false]
    by_cases h1 : -1000000 ≤ x.fLow <;> by_cases h2 : x.fLow ≤ 1000000 <;> by_cases h3 : x.fLow ≤ x.fHigh <;> by_cases h4 : x.fHigh ≤ 1000000 <;> simp [h1, h2, h3, h4] <;> omega
  | false =>
    have hz' : (x.fNames.length : Int) ≠ 0 := by simpa using hz
    rw [cond_false, decide_eq_true (show (x.fNames.length : Int) > 0 by omega), cond_true, gd (inR_of (x := (x.fNames.length : Int) - 1) (by omega))]
    cases (namesS x.fNames != 0) with
    | true => rfl
    | false =>
      simp only [cond_false, bne]
      cases (x.fLow == 0) <;> cases (x.fHigh == (x.fNames.length : Int) - 1) <;> rfl

def attrsS (ns : List NodeType) : Nat → Int → List Attr
  | 0, _ => []
  | d + 1, a => bif decide (a < 0) then [] else attrsS ns d (rd ns a).fParent ++ (rd ns a).fAttrs
def WfP (ns : List NodeType) (n : Nat) : Prop := n ≤ ns.length ∧ ∀ j : Nat, j < n → -1 ≤ (rd ns (j : Int)).fParent ∧ (rd ns (j : Int)).fParent < (j : Int)
theorem attrsS_neg {ns : List NodeType} {d : Nat} {a : Int} (h : a < 0) : attrsS ns d a = [] := by cases d <;> simp [attrsS, h]
theorem attrsS_pos {ns : List NodeType} {d : Nat} {a : Int} (h : 0 ≤ a) : attrsS ns (d + 1) a = attrsS ns d (rd ns a).fParent ++ (rd ns a).fAttrs := by
  have : decide (a < 0) = false := by simp; omega
  simp [attrsS, this]
theorem wf_at {ns : List NodeType} {n : Nat} (w : WfP ns n) {a : Int} (h0 : 0 ≤ a) (h : a < (n : Int)) : -1 ≤ (rd ns a).fParent ∧ (rd ns a).fParent < a := by
  have := w.2 a.toNat (by omega)
  rwa [Int.toNat_of_nonneg h0] at this
theorem attrsS_len {ns : List NodeType} {n : Nat} (w : WfP ns n) (hn : ∀ x ∈ ns, x.fAttrs.length ≤ 30) : ∀ (d : Nat) (a : Int), a < (n : Int) → (attrsS ns d a).length ≤ 30 * d
  | 0, _, _ => by simp [attrsS]
  | d + 1, a, h => by
    rcases Int.lt_or_le a 0 with ha | ha
    · rw [attrsS_neg ha]; simp
    · have hw := wf_at w ha h
      have hm := hn _ (rd_mem (l := ns) ha (by have := w.1; omega))
      have ih := attrsS_len w hn d (rd ns a).fParent (by omega)
      rw [attrsS_pos ha, List.length_append]
      omega
theorem attrsS_all {ns : List NodeType} {n : Nat} {G : Attr → Prop} (w : WfP ns n) (hn : ∀ x ∈ ns, ∀ a ∈ x.fAttrs, G a) : ∀ (d : Nat) (a : Int), a < (n : Int) → ∀ x ∈ attrsS ns d a, G x
  | 0, _, _ => by simp [attrsS]
  | d + 1, a, h => by
    rcases Int.lt_or_le a 0 with ha | ha
    · rw [attrsS_neg ha]; simp
    · have hw := wf_at w ha h
      have ih := attrsS_all w hn d (rd ns a).fParent (by omega)
      rw [attrsS_pos ha]
      intro x hx
      rcases List.mem_append.1 hx with hx | hx
      · exact ih x hx
      · exact hn _ (rd_mem (l := ns) ha (by have := w.1; omega)) x hx
theorem types_attrs_eq {t : Types} {n : Nat} (w : WfP t.fNodes n) (hn : ∀ x ∈ t.fNodes, x.fAttrs.length ≤ 30) : ∀ (d k : Nat) (a : Int), d ≤ 1000 → d ≤ k → 0 ≤ a → a < (d : Int) → a < (n : Int) →
    types_attrs k t a = some (attrsS t.fNodes d a)
  | 0, _, _, _, _, h0, h1, _ => by omega
  | d + 1, 0, _, _, hk, _, _, _ => by omega
  | d + 1, k + 1, a, hd, hk, h0, h1, h2 => by
    have hw := wf_at w h0 h2
    have g : (0 : Int) ≤ a ∧ a < (t.fNodes.length : Int) := ⟨h0, by have := w.1; omega⟩
    have hm := hn _ (rd_mem g.1 g.2)
    have hl := attrsS_len w hn d (rd t.fNodes a).fParent (by omega)
    rw [attrsS_pos h0]
    unfold types_attrs types_attrs.main
    simp only [jn, gd g]
    cases hp : decide ((rd t.fNodes a).fParent ≥ 0) with
    | true =>
      have hp' : (rd t.fNodes a).fParent ≥ 0 := by simpa using hp
      rw [cond_true, types_attrs_eq w hn d k _ (by omega) (by omega) hp' (by omega) (by omega), Option.bind_some, gd (by unfold lim; omega)]
    | false =>
      have hp' : (rd t.fNodes a).fParent < 0 := by have : ¬ (rd t.fNodes a).fParent ≥ 0 := by simpa using hp
                                                   omega
      rw [cond_false, attrsS_neg hp', gd (by simp [lim]; omega)]
theorem ref04_attrs_eq {t : Types} {n : Nat} (w : WfP t.fNodes n) (hn : ∀ x ∈ t.fNodes, x.fAttrs.length ≤ 30) : ∀ (d k : Nat) (a : Int), d ≤ 1000 → d < k → a < (d : Int) → a < (n : Int) →
    ref04_attrs k t a = some (attrsS t.fNodes d a)
  | d, 0, _, _, hk, _, _ => by omega
  | 0, k + 1, a, _, _, h1, _ => by
    unfold ref04_attrs ref04_attrs.main
    rw [decide_eq_true (show a < 0 by omega)]; rfl
  | d + 1, k + 1, a, hd, hk, h1, h2 => by
    unfold ref04_attrs ref04_attrs.main
    rcases Int.lt_or_le a 0 with ha | ha
    · rw [decide_eq_true ha, attrsS_neg ha]; rfl
    · have hw := wf_at w ha h2
      have g : (0 : Int) ≤ a ∧ a < (t.fNodes.length : Int) := ⟨ha, by have := w.1; omega⟩
      have hm := hn _ (rd_mem g.1 g.2)
      have hl := attrsS_len w hn d (rd t.fNodes a).fParent (by omega)
      rw [decide_eq_false (show ¬ a < 0 by omega), cond_false, attrsS_pos ha, gd g, ref04_attrs_eq w hn d k _ (by omega) (by omega) (by omega) (by omega), Option.bind_some, gd (by unfold lim; omega), gd g, gd (by unfold lim; omega)]

def nodeErr (t : Types) (i : Nat) : Int :=
  bif !isNameB (rd t.fNodes (i : Int)).fName then 2
  else bif anyN (fun j => (rd t.fNodes (j : Int)).fName == (rd t.fNodes (i : Int)).fName) 0 i then 5
  else bif decide ((rd t.fNodes (i : Int)).fParent < -1) || decide ((rd t.fNodes (i : Int)).fParent ≥ (i : Int)) then 6
  else bif decide (((rd t.fNodes (i : Int)).fAttrs.length : Int) > 4) then 3
  else bif decide (((attrsS t.fNodes 100 (i : Int)).length : Int) > 8) then 3
  else scan (attrErr (attrsS t.fNodes 100 (i : Int))) ((attrsS t.fNodes 100 (i : Int)).length - (rd t.fNodes (i : Int)).fAttrs.length) (attrsS t.fNodes 100 (i : Int)).length
theorem wf_succ {ns : List NodeType} {i : Nat} (w : WfP ns i) (hi : i < ns.length) (h : -1 ≤ (rd ns (i : Int)).fParent ∧ (rd ns (i : Int)).fParent < (i : Int)) : WfP ns (i + 1) :=
  ⟨hi, fun j hj => by rcases Nat.lt_succ_iff_lt_or_eq.1 hj with hj | rfl
                      · exact w.2 j hj
                      · exact h⟩
theorem nodeErr_wf {t : Types} {i : Nat} (w : WfP t.fNodes i) (hi : i < t.fNodes.length) (h : nodeErr t i = 0) : WfP t.fNodes (i + 1) := by
  refine wf_succ w hi ?_
  unfold nodeErr at h
  cases h1 : isNameB (rd t.fNodes (i : Int)).fName
  · rw [h1] at h; simp at h
  cases h2 : anyN (fun j => (rd t.fNodes (j : Int)).fName == (rd t.fNodes (i : Int)).fName) 0 i
  · rw [h1, h2] at h
    simp only [Bool.not_true, cond_false] at h
    cases hp : decide ((rd t.fNodes (i : Int)).fParent < -1) || decide ((rd t.fNodes (i : Int)).fParent ≥ (i : Int)) with
    | true => rw [hp] at h; simp at h
    | false =>
      simp only [Bool.or_eq_false_iff, decide_eq_false_iff_not] at hp
      omega
  · rw [h1, h2] at h; simp at h

theorem types_node_eq {k : Nat} (hk : 200 ≤ k) {t : Types} (ht : FewT t) {i : Nat} (hi : i < t.fNodes.length) (w : WfP t.fNodes i) : types_node k t (i : Int) = some (nodeErr t i) := by
  have h20 := ht.nodes
  have h1 : (0 : Int) ≤ (i : Int) ∧ (i : Int) < (t.fNodes.length : Int) := by omega
  have hm := rd_mem h1.1 h1.2
  have h3 : (t.fNodes.take (i : Int).toNat).length = i := by simp; omega
  have h4 := token_IsName_eq (k := k) hk (rd t.fNodes (i : Int)).fName (by have := ht.nname _ hm; omega)
  have h5 := ContainsFunc_NodeType (k := k) (t.fNodes.take (i : Int).toNat) (fun x => types_node_1 k x (rd t.fNodes (i : Int))) _ (by omega) (by omega) (fun j _ => rfl)
  rw [h3, anyN_congr (q := fun j => (rd t.fNodes (j : Int)).fName == (rd t.fNodes (i : Int)).fName) (fun j _ hj => by rw [show (i : Int).toNat = i from rfl, rd_take hj])] at h5
  unfold types_node nodeErr
  rw [gd h1, h4, Option.bind_some]
  cases isNameB (rd t.fNodes (i : Int)).fName with
  | false => rfl
  | true =>
    rw [Bool.not_true, cond_false, cond_false, gd (by omega), h5, Option.bind_some]
    cases anyN (fun j => (rd t.fNodes (j : Int)).fName == (rd t.fNodes (i : Int)).fName) 0 i with
    | true => rfl
    | false =>
      simp only [cond_false, jn]
      cases hp1 : decide ((rd t.fNodes (i : Int)).fParent < -1) with
      | true => rfl
      | false =>
        cases hp2 : decide ((rd t.fNodes (i : Int)).fParent ≥ (i : Int)) with
        | true => rfl
        | false =>
          simp only [decide_eq_false_iff_not] at hp1 hp2
          have w' := wf_succ w hi (by omega)
          have ha := types_attrs_eq w' ht.nattr 100 k (i : Int) (by omega) (by omega) (by omega) (by omega) (by omega)
          have hall := attrsS_all w' ht.attr 100 (i : Int) (by omega)
          have hlen : (rd t.fNodes (i : Int)).fAttrs.length ≤ (attrsS t.fNodes 100 (i : Int)).length := by rw [attrsS_pos (by omega)]; simp
          rw [ha, Option.bind_some]
          generalize attrsS t.fNodes 100 (i : Int) = all at *
          simp only [Bool.or_false, cond_false]
          cases decide (((rd t.fNodes (i : Int)).fAttrs.length : Int) > 4) with
          | true => rfl
          | false =>
            cases h8 : decide ((all.length : Int) > 8) with
            | true => rfl
            | false =>
              simp at h8
              rw [cond_false, cond_false, gd (inR_of (by omega)), show ((all.length : Int) - ((rd t.fNodes (i : Int)).fAttrs.length : Int)) = ((all.length - (rd t.fNodes (i : Int)).fAttrs.length : Nat) : Int) by omega]
              refine loop1_eq (fun j => scan (attrErr all) j all.length) all.length (fun rec => ?_) (fun j hj rec ih => ?_) (by omega) (by omega)
              · simp [types_node.b0, scan_end]
              · rw [scan_step hj]
                have g2 : (0 : Int) ≤ (j : Int) ∧ (j : Int) < (all.length : Int) := by omega
                have h7 := types_attribute_eq (k := k) hk all j hj (by omega) (hall _ (rd_mem g2.1 g2.2))
                simp only [types_node.b0, show decide ((j : Int) < (all.length : Int)) = true by simp [hj], cond_true, gd g2, gd (show (0 : Int) ≤ (j : Int) ∧ (j : Int) ≤ (all.length : Int) by omega), h7, Option.bind_some, gd (inR_nat (n := j) (by omega)), ih]
                cases (attrErr all j != 0) <;> rfl
theorem ref04_node_eq {k : Nat} (hk : 200 ≤ k) {t : Types} (ht : FewT t) {i : Nat} (hi : i < t.fNodes.length) (w : WfP t.fNodes i) : ref04_node k t (i : Int) = some (nodeErr t i) := by
  have h20 := ht.nodes
  have h1 : (0 : Int) ≤ (i : Int) ∧ (i : Int) < (t.fNodes.length : Int) := by omega
  have hm := rd_mem h1.1 h1.2
  have h4 := ref01_IsName_eq (k := k) hk (rd t.fNodes (i : Int)).fName (by have := ht.nname _ hm; omega)
  unfold ref04_node nodeErr
  rw [gd h1, h4, Option.bind_some]
  cases isNameB (rd t.fNodes (i : Int)).fName with
  | false => rfl
  | true =>
    rw [Bool.not_true, cond_false, cond_false, show (0 : Int) = ((0 : Nat) : Int) from rfl]
    generalize hE : (bif decide ((rd t.fNodes (i : Int)).fParent < -1) || decide ((rd t.fNodes (i : Int)).fParent ≥ (i : Int)) then (6 : Int)
      else bif decide (((rd t.fNodes (i : Int)).fAttrs.length : Int) > 4) then 3
      else bif decide (((attrsS t.fNodes 100 (i : Int)).length : Int) > 8) then 3
      else scan (attrErr (attrsS t.fNodes 100 (i : Int))) ((attrsS t.fNodes 100 (i : Int)).length - (rd t.fNodes (i : Int)).fAttrs.length) (attrsS t.fNodes 100 (i : Int)).length) = E
    refine loop1_eq (fun j => bif anyN (fun j => (rd t.fNodes (j : Int)).fName == (rd t.fNodes (i : Int)).fName) j i then 5 else E) i (fun rec => ?_) (fun j hj rec ih => ?_) (Nat.zero_le _) (by omega)
    · rw [anyN_end, cond_false]
      simp only [ref04_node.b0, show decide ((i : Int) < (i : Int)) = false by simp, cond_false, gd (inR_of (x := (i : Int) - 1) (by omega)), ref04_in_eq, Option.bind_some, jn]
      subst hE
      by_cases hp1 : (rd t.fNodes (i : Int)).fParent < -1
      · rw [decide_eq_true hp1, decide_eq_false (show ¬ (rd t.fNodes (i : Int)).fParent ≥ -1 by omega)]; rfl
      by_cases hp2 : (rd t.fNodes (i : Int)).fParent ≥ (i : Int)
      · rw [decide_eq_true hp2, decide_eq_false hp1, decide_eq_false (show ¬ (rd t.fNodes (i : Int)).fParent ≤ (i : Int) - 1 by omega), Bool.and_false]; rfl
      have w' := wf_succ w hi (by omega)
      have ha := ref04_attrs_eq w' ht.nattr 100 k (i : Int) (by omega) (by omega) (by omega) (by omega)
      have hall := attrsS_all w' ht.attr 100 (i : Int) (by omega)
      have hlen : (rd t.fNodes (i : Int)).fAttrs.length ≤ (attrsS t.fNodes 100 (i : Int)).length := by rw [attrsS_pos (by omega)]; simp
      rw [ha, Option.bind_some, decide_eq_false hp1, decide_eq_false hp2, decide_eq_true (show (rd t.fNodes (i : Int)).fParent ≥ -1 by omega), decide_eq_true (show (rd t.fNodes (i : Int)).fParent ≤ (i : Int) - 1 by omega)]
      generalize attrsS t.fNodes 100 (i : Int) = all at *
      simp only [Bool.or_false, Bool.and_true, Bool.not_true, cond_false]
      cases decide (((rd t.fNodes (i : Int)).fAttrs.length : Int) > 4) with
      | true => rfl
      | false =>
        cases h8 : decide ((all.length : Int) > 8) with
        | true => rfl
        | false =>
          simp at h8
          rw [cond_false, cond_false, cond_false, cond_false, gd (inR_of (by omega)), show ((all.length : Int) - ((rd t.fNodes (i : Int)).fAttrs.length : Int)) = ((all.length - (rd t.fNodes (i : Int)).fAttrs.length : Nat) : Int) by omega]
          refine loop1_eq (fun j => scan (attrErr all) j all.length) all.length (fun rec => ?_) (fun j hj rec ih => ?_) (by omega) (by omega)
          · simp [ref04_node.b1, scan_end]
          · rw [scan_step hj]
            have g2 : (0 : Int) ≤ (j : Int) ∧ (j : Int) < (all.length : Int) := by omega
            have hfa := hall _ (rd_mem g2.1 g2.2)
            have h7 := ref04_attribute_eq (k := k) hk _ hfa
            have h8 := ref01_IsName_eq (k := k) hk (rd all (j : Int)).fName (by have := hfa.name; omega)
            have h9 : loop1 k (ref04_node.b2 k all (j : Int) rec) ((0 : Nat) : Int) = some (bif anyN (fun m => (rd all (m : Int)).fName == (rd all (j : Int)).fName) 0 j then 5 else bif attrOwn (rd all (j : Int)) != 0 then attrOwn (rd all (j : Int)) else scan (attrErr all) (j + 1) all.length) := by
              refine loop1_eq (fun m => bif anyN (fun m => (rd all (m : Int)).fName == (rd all (j : Int)).fName) m j then 5 else bif attrOwn (rd all (j : Int)) != 0 then attrOwn (rd all (j : Int)) else scan (attrErr all) (j + 1) all.length) j (fun rec1 => ?_) (fun m hm rec1 ih1 => ?_) (Nat.zero_le _) (by omega)
              · simp only [ref04_node.b2, anyN_end, cond_false, gd g2, h7, Option.bind_some, gd (inR_nat (n := j) (by omega)), ih, show decide ((j : Int) < (j : Int)) = false by simp]
                cases (attrOwn (rd all (j : Int)) != 0) <;> rfl
              · rw [anyN_step hm]
                simp only [ref04_node.b2, show decide ((m : Int) < (j : Int)) = true by simp [hm], cond_true, gd g2, gd (show (0 : Int) ≤ (m : Int) ∧ (m : Int) < (all.length : Int) by omega), gd (inR_nat (n := m) (by omega)), ih1]
                cases ((rd all (m : Int)).fName == (rd all (j : Int)).fName) <;> rfl
            have h10 : loop1 k (ref04_node.b2 k all (j : Int) rec) 0 = _ := h9
            simp only [ref04_node.b1, show decide ((j : Int) < (all.length : Int)) = true by simp [hj], cond_true, gd g2, h8, Option.bind_some, h10, attrErr]
            cases isNameB (rd all (j : Int)).fName <;> cases anyN (fun m => (rd all (m : Int)).fName == (rd all (j : Int)).fName) 0 j <;> rfl
    · rw [anyN_step hj]
      simp only [ref04_node.b0, show decide ((j : Int) < (i : Int)) = true by simp [hj], cond_true, gd (show (0 : Int) ≤ (j : Int) ∧ (j : Int) < (t.fNodes.length : Int) by omega), gd (inR_nat (n := j) (by omega)), ih]
      cases ((rd t.fNodes (j : Int)).fName == (rd t.fNodes (i : Int)).fName) <;> rfl

def boundB (a b : Int) : Bool := decide (a ≥ 0) && (decide (a ≤ 40) && (b == -1 || (decide (b ≥ a) && decide (b ≤ 40))))
theorem types_bounded_eq {k : Nat} (a b : Int) : types_bounded k a b = some (boundB a b) := by
  simp only [types_bounded, jn, boundB]
  cases decide (a ≥ 0) <;> cases decide (a ≤ 40) <;> cases (b == -1) <;> cases decide (b ≥ a) <;> rfl
theorem ref04_bound_eq {k : Nat} (a b : Int) : ref04_bound k a b = some (boundB a b) := by
  simp only [ref04_bound, jn, boundB, ref04_in_eq, Option.bind_some]
  cases decide (a ≥ 0) <;> cases decide (a ≤ 40) <;> cases (b == -1) <;> cases decide (b ≥ a) <;> rfl
def insB (a : Int) (t : Types) : Bool := decide (a ≥ 0) && decide (a < (t.fNodes.length : Int))
theorem types_edge_1_eq {k : Nat} (a : Int) (t : Types) : types_edge_1 k a t = some (insB a t) := by
  simp only [types_edge_1, jn, insB]
  cases decide (a ≥ 0) <;> rfl
theorem ins_eq (a : Int) (t : Types) : (decide (a ≥ 0) && decide (a ≤ (t.fNodes.length : Int) - 1)) = insB a t := by
  unfold insB; rw [Bool.eq_iff_iff]; simp; omega
def edgeErr (t : Types) (i : Nat) : Int :=
  bif !isNameB (rd t.fEdges (i : Int)).fName then 2
  else bif anyN (fun j => (rd t.fEdges (j : Int)).fName == (rd t.fEdges (i : Int)).fName) 0 i then 5
  else bif insB (rd t.fEdges (i : Int)).fFrom t && (insB (rd t.fEdges (i : Int)).fTo t && (boundB (rd t.fEdges (i : Int)).fOutLow (rd t.fEdges (i : Int)).fOutHigh && boundB (rd t.fEdges (i : Int)).fInLow (rd t.fEdges (i : Int)).fInHigh)) then 0 else 6
theorem types_edge_eq {k : Nat} (hk : 200 ≤ k) {t : Types} (ht : FewT t) {i : Nat} (hi : i < t.fEdges.length) : types_edge k t (i : Int) = some (edgeErr t i) := by
  have h20 := ht.edges
  have h1 : (0 : Int) ≤ (i : Int) ∧ (i : Int) < (t.fEdges.length : Int) := by omega
  have hm := rd_mem h1.1 h1.2
  have h3 : (t.fEdges.take (i : Int).toNat).length = i := by simp; omega
  have h4 := token_IsName_eq (k := k) hk (rd t.fEdges (i : Int)).fName (by have := ht.ename _ hm; omega)
  have h5 := ContainsFunc_EdgeType (k := k) (t.fEdges.take (i : Int).toNat) (fun x => types_edge_2 k x (rd t.fEdges (i : Int))) _ (by omega) (by omega) (fun j _ => rfl)
  rw [h3, anyN_congr (q := fun j => (rd t.fEdges (j : Int)).fName == (rd t.fEdges (i : Int)).fName) (fun j _ hj => by rw [show (i : Int).toNat = i from rfl, rd_take hj])] at h5
  unfold types_edge edgeErr
  simp only [gd h1, h4, Option.bind_some, gd (show (0 : Int) ≤ (i : Int) ∧ (i : Int) ≤ (t.fEdges.length : Int) by omega), h5, jn, types_edge_1_eq, types_bounded_eq]
  cases isNameB (rd t.fEdges (i : Int)).fName <;> cases anyN (fun j => (rd t.fEdges (j : Int)).fName == (rd t.fEdges (i : Int)).fName) 0 i <;> cases insB (rd t.fEdges (i : Int)).fFrom t <;> cases insB (rd t.fEdges (i : Int)).fTo t <;>
    cases boundB (rd t.fEdges (i : Int)).fOutLow (rd t.fEdges (i : Int)).fOutHigh <;> cases boundB (rd t.fEdges (i : Int)).fInLow (rd t.fEdges (i : Int)).fInHigh <;> rfl
theorem ref04_edge_eq {k : Nat} (hk : 200 ≤ k) {t : Types} (ht : FewT t) {i : Nat} (hi : i < t.fEdges.length) : ref04_edge k t (i : Int) = some (edgeErr t i) := by
  have h20 := ht.edges
  have h21 := ht.nodes
  have h1 : (0 : Int) ≤ (i : Int) ∧ (i : Int) < (t.fEdges.length : Int) := by omega
  have hm := rd_mem h1.1 h1.2
  have h4 := ref01_IsName_eq (k := k) hk (rd t.fEdges (i : Int)).fName (by have := ht.ename _ hm; omega)
  unfold ref04_edge edgeErr
  rw [gd h1, h4, Option.bind_some]
  cases isNameB (rd t.fEdges (i : Int)).fName with
  | false => rfl
  | true =>
    rw [Bool.not_true, cond_false, cond_false, show (0 : Int) = ((0 : Nat) : Int) from rfl]
    refine loop1_eq (fun j => bif anyN (fun j => (rd t.fEdges (j : Int)).fName == (rd t.fEdges (i : Int)).fName) j i then (5 : Int) else _) i (fun rec => ?_) (fun j hj rec ih => ?_) (Nat.zero_le _) (by omega)
    · rw [anyN_end, cond_false]
      simp only [ref04_edge.b0, show decide ((i : Int) < (i : Int)) = false by simp, cond_false, gd (inR_of (x := (t.fNodes.length : Int) - 1) (by omega)), ref04_in_eq, ins_eq, ref04_bound_eq, Option.bind_some, jn]
      cases insB (rd t.fEdges (i : Int)).fFrom t <;> cases insB (rd t.fEdges (i : Int)).fTo t <;>
        cases boundB (rd t.fEdges (i : Int)).fOutLow (rd t.fEdges (i : Int)).fOutHigh <;> cases boundB (rd t.fEdges (i : Int)).fInLow (rd t.fEdges (i : Int)).fInHigh <;> rfl
    · rw [anyN_step hj]
      simp only [ref04_edge.b0, show decide ((j : Int) < (i : Int)) = true by simp [hj], cond_true, gd (show (0 : Int) ≤ (j : Int) ∧ (j : Int) < (t.fEdges.length : Int) by omega), gd (inR_nat (n := j) (by omega)), ih]
      cases ((rd t.fEdges (j : Int)).fName == (rd t.fEdges (i : Int)).fName) <;> rfl

def valid2S (t : Types) (i : Nat) : Int := bif scan (nodeErr t) i t.fNodes.length != 0 then scan (nodeErr t) i t.fNodes.length else scan (edgeErr t) 0 t.fEdges.length
def validS (t : Types) : Int :=
  bif ((t.fNodes.length : Int) == 0) then 7 else bif decide ((t.fNodes.length : Int) > 12) || decide ((t.fEdges.length : Int) > 20) then 3 else valid2S t 0
theorem types_Valid_out {k : Nat} (hk : 200 ≤ k) {t : Types} (ht : FewT t) : Out (types_Valid k t) (fun r => r.2 = validS t) := by
  have h20 := ht.nodes
  have h30 := ht.edges
  unfold types_Valid validS; simp only [jn]
  cases ((t.fNodes.length : Int) == 0) with
  | true => exact ⟨_, rfl, rfl⟩
  | false =>
    cases decide ((t.fNodes.length : Int) > 12) with
    | true => exact ⟨_, rfl, rfl⟩
    | false =>
      cases decide ((t.fEdges.length : Int) > 20) with
      | true => exact ⟨_, rfl, rfl⟩
      | false =>
        refine loop1_out (I := fun i => WfP t.fNodes i) (P := fun i (r : Str × Int) => r.2 = valid2S t i) t.fNodes.length (fun w rec => ?_) (fun i hi w rec ih => ?_) k 0 (Nat.zero_le _) (by omega) ⟨Nat.zero_le _, fun j hj => by omega⟩
        · simp only [types_Valid.b0, show decide ((t.fNodes.length : Int) < (t.fNodes.length : Int)) = false by simp, cond_false, valid2S, scan_end, bne_self_eq_false]
          refine loop1_out (I := fun _ => True) (P := fun i (r : Str × Int) => r.2 = scan (edgeErr t) i t.fEdges.length) t.fEdges.length (fun _ rec => ?_) (fun i hi _ rec ih => ?_) k 0 (Nat.zero_le _) (by omega) trivial
          · simp only [types_Valid.b1, show decide ((t.fEdges.length : Int) < (t.fEdges.length : Int)) = false by simp, cond_false, scan_end]
            exact ⟨_, rfl, rfl⟩
          · rw [scan_step hi]
            simp only [types_Valid.b1, show decide ((i : Int) < (t.fEdges.length : Int)) = true by simp [hi], cond_true, gd (show (0 : Int) ≤ (i : Int) ∧ (i : Int) < (t.fEdges.length : Int) by omega), types_edge_eq hk ht hi, Option.bind_some, gd (inR_nat (n := i) (by omega))]
            cases (edgeErr t i != 0) with
            | true => exact ⟨_, rfl, rfl⟩
            | false => exact ih trivial
        · unfold valid2S
          rw [scan_step hi]
          simp only [types_Valid.b0, show decide ((i : Int) < (t.fNodes.length : Int)) = true by simp [hi], cond_true, gd (show (0 : Int) ≤ (i : Int) ∧ (i : Int) < (t.fNodes.length : Int) by omega), types_node_eq hk ht hi w, Option.bind_some, gd (inR_nat (n := i) (by omega))]
          cases hz : (nodeErr t i != 0) with
          | true => exact ⟨_, rfl, by rw [cond_true, hz]; rfl⟩
          | false => exact ih (nodeErr_wf w hi (by simpa using hz))
theorem ref04_Valid_out {k : Nat} (hk : 200 ≤ k) {t : Types} (ht : FewT t) : Out (ref04_Valid k t) (fun r => r.2 = validS t) := by
  have h20 := ht.nodes
  have h30 := ht.edges
  unfold ref04_Valid validS; simp only [jn]
  cases ((t.fNodes.length : Int) == 0) with
  | true => exact ⟨_, rfl, rfl⟩
  | false =>
    cases decide ((t.fNodes.length : Int) > 12) with
    | true => exact ⟨_, rfl, rfl⟩
    | false =>
      cases decide ((t.fEdges.length : Int) > 20) with
      | true => exact ⟨_, rfl, rfl⟩
      | false =>
        refine loop1_out (I := fun i => WfP t.fNodes i) (P := fun i (r : Str × Int) => r.2 = valid2S t i) t.fNodes.length (fun w rec => ?_) (fun i hi w rec ih => ?_) k 0 (Nat.zero_le _) (by omega) ⟨Nat.zero_le _, fun j hj => by omega⟩
        · simp only [ref04_Valid.b0, show decide ((t.fNodes.length : Int) < (t.fNodes.length : Int)) = false by simp, cond_false, valid2S, scan_end, bne_self_eq_false]
          refine loop1_out (I := fun _ => True) (P := fun i (r : Str × Int) => r.2 = scan (edgeErr t) i t.fEdges.length) t.fEdges.length (fun _ rec => ?_) (fun i hi _ rec ih => ?_) k 0 (Nat.zero_le _) (by omega) trivial
          · simp only [ref04_Valid.b1, show decide ((t.fEdges.length : Int) < (t.fEdges.length : Int)) = false by simp, cond_false, scan_end]
            exact ⟨_, rfl, rfl⟩
          · rw [scan_step hi]
            simp only [ref04_Valid.b1, show decide ((i : Int) < (t.fEdges.length : Int)) = true by simp [hi], cond_true, gd (show (0 : Int) ≤ (i : Int) ∧ (i : Int) < (t.fEdges.length : Int) by omega), ref04_edge_eq hk ht hi, Option.bind_some, gd (inR_nat (n := i) (by omega))]
            cases (edgeErr t i != 0) with
            | true => exact ⟨_, rfl, rfl⟩
            | false => exact ih trivial
        · unfold valid2S
          rw [scan_step hi]
          simp only [ref04_Valid.b0, show decide ((i : Int) < (t.fNodes.length : Int)) = true by simp [hi], cond_true, gd (show (0 : Int) ≤ (i : Int) ∧ (i : Int) < (t.fNodes.length : Int) by omega), ref04_node_eq hk ht hi w, Option.bind_some, gd (inR_nat (n := i) (by omega))]
          cases hz : (nodeErr t i != 0) with
          | true => exact ⟨_, rfl, by rw [cond_true, hz]; rfl⟩
          | false => exact ih (nodeErr_wf w hi (by simpa using hz))
/-- What a type graph without error has. -/
theorem valid_wf {t : Types} (h : validS t = 0) : WfP t.fNodes t.fNodes.length ∧ t.fNodes.length ≤ 12 ∧ t.fEdges.length ≤ 20 := by
  unfold validS at h
  cases h0 : ((t.fNodes.length : Int) == 0) with
  | true => rw [h0] at h; simp at h
  | false =>
    cases h1 : decide ((t.fNodes.length : Int) > 12) || decide ((t.fEdges.length : Int) > 20) with
    | true => rw [h0, h1] at h; simp at h
    | false =>
      simp only [Bool.or_eq_false_iff, decide_eq_false_iff_not] at h1
      rw [h0] at h
      have h1' : (decide ((t.fNodes.length : Int) > 12) || decide ((t.fEdges.length : Int) > 20)) = false := by simp; omega
      rw [h1'] at h
      simp only [cond_false, valid2S] at h
      have hz : scan (nodeErr t) 0 t.fNodes.length = 0 := by
        cases hb : (scan (nodeErr t) 0 t.fNodes.length != 0) with
        | true => rw [hb] at h; exact h
        | false => simpa using hb
      refine ⟨?_, by omega, by omega⟩
      have : ∀ i, i ≤ t.fNodes.length → WfP t.fNodes i := by
        intro i
        induction i with
        | zero => intro _; exact ⟨Nat.zero_le _, fun j hj => by omega⟩
        | succ i ih => intro hi; exact nodeErr_wf (ih (by omega)) (by omega) (scan_zero hz i (Nat.zero_le _) (by omega))
      exact this _ (Nat.le_refl _)
end Go.Proofs.YthmdmchmmgmblaaGreat

namespace Go.Proofs.YthmdmchmmgmblaaGreat
open Go Go.Abs

def kindB (x : Int) : Bool := decide (x ≥ 0) && decide (x ≤ 99)
def ltB (x n : Int) : Bool := decide (x ≥ 0) && decide (x < n)
def rightB (e : Edge) (n : Int) : Bool := kindB e.fType && (ltB e.fFrom n && ltB e.fTo n)
theorem graph_within_eq {k : Nat} (a b : Int) : graph_within k a b = some (decide (a ≥ 0) && decide (a ≤ b)) := by
  simp only [graph_within, jn]; cases decide (a ≥ 0) <;> rfl
theorem graph_fits_eq {k : Nat} (e : Edge) {n : Int} (hn : inR (n - 1)) : graph_fits k e n = some (rightB e n) := by
  simp only [graph_fits, jn, graph_within_eq, Option.bind_some, gd hn, rightB, kindB, ltB]
  have h1 : decide (e.fFrom ≤ n - 1) = decide (e.fFrom < n) := by rw [Bool.eq_iff_iff]; simp; omega
  have h2 : decide (e.fTo ≤ n - 1) = decide (e.fTo < n) := by rw [Bool.eq_iff_iff]; simp; omega
  rw [h1, h2]
  cases (decide (e.fType ≥ 0) && decide (e.fType ≤ 99)) <;> cases (decide (e.fFrom ≥ 0) && decide (e.fFrom < n)) <;> rfl
theorem ref05_kind_eq {k : Nat} (a : Int) : ref05_kind k a = some (kindB a) := by
  simp only [ref05_kind, jn, kindB]; cases decide (a ≥ 0) <;> rfl
theorem ref05_right_eq {k : Nat} (e : Edge) (n : Int) : ref05_right k e n = some (rightB e n) := by
  simp only [ref05_right, jn, ref05_kind_eq, Option.bind_some, rightB, ltB]
  cases kindB e.fType <;> cases decide (e.fFrom ≥ 0) <;> cases decide (e.fFrom < n) <;> cases decide (e.fTo ≥ 0) <;> rfl

structure FewG (g : Graph) : Prop where
  nodes : g.fNodes.length ≤ 45
  edges : g.fEdges.length ≤ 90

def edges6 (g : Graph) (i : Nat) : Int := bif anyN (fun j => !rightB (rd g.fEdges (j : Int)) (g.fNodes.length : Int)) i g.fEdges.length then 6 else 0
def nodes6 (g : Graph) (i : Nat) : Int := bif anyN (fun j => !kindB (rd g.fNodes (j : Int))) i g.fNodes.length then 6 else edges6 g 0
def graphErr (g : Graph) : Int := bif decide ((g.fNodes.length : Int) > 40) || decide ((g.fEdges.length : Int) > 80) then 3 else nodes6 g 0
theorem graph_Valid_eq {k : Nat} (hk : 200 ≤ k) {g : Graph} (hg : FewG g) : graph_Valid k g = some (graphErr g) := by
  have h1 := hg.nodes; have h2 := hg.edges
  have h3 := ContainsFunc_int (k := k) g.fNodes (fun x => graph_Valid_1 k x) (fun j => !kindB (rd g.fNodes (j : Int))) (by omega) (by omega) (fun j _ => by simp only [graph_Valid_1, graph_within_eq, Option.bind_some, kindB])
  have h4 := ContainsFunc_Edge (k := k) g.fEdges (fun x => graph_Valid_2 k x g) (fun j => !rightB (rd g.fEdges (j : Int)) (g.fNodes.length : Int)) (by omega) (by omega)
    (fun j _ => by simp only [graph_Valid_2, graph_fits_eq _ (inR_of (x := (g.fNodes.length : Int) - 1) (by omega)), Option.bind_some])
  simp only [graph_Valid, jn, h3, h4, Option.bind_some, graphErr, nodes6, edges6]
  cases decide ((g.fNodes.length : Int) > 40) <;> cases decide ((g.fEdges.length : Int) > 80) <;> cases anyN (fun j => !kindB (rd g.fNodes (j : Int))) 0 g.fNodes.length <;> cases anyN (fun j => !rightB (rd g.fEdges (j : Int)) (g.fNodes.length : Int)) 0 g.fEdges.length <;> rfl
theorem ref05_Valid_eq {k : Nat} (hk : 200 ≤ k) {g : Graph} (hg : FewG g) : ref05_Valid k g = some (graphErr g) := by
  have h1 := hg.nodes; have h2 := hg.edges
  have h3 : loop1 k (ref05_Valid.b0 k g) ((0 : Nat) : Int) = some (nodes6 g 0) := by
    refine loop1_eq (fun i => nodes6 g i) g.fNodes.length (fun rec => ?_) (fun i hi rec ih => ?_) (Nat.zero_le _) (by omega)
    · simp only [ref05_Valid.b0, show decide ((g.fNodes.length : Int) < (g.fNodes.length : Int)) = false by simp, cond_false, nodes6, anyN_end]
      have h4 : loop1 k (ref05_Valid.b1 k g) ((0 : Nat) : Int) = some (edges6 g 0) := by
        refine loop1_eq (fun i => edges6 g i) g.fEdges.length (fun rec => ?_) (fun i hi rec ih => ?_) (Nat.zero_le _) (by omega)
        · simp only [ref05_Valid.b1, show decide ((g.fEdges.length : Int) < (g.fEdges.length : Int)) = false by simp, cond_false, edges6, anyN_end]
        · simp only [edges6] at ih
          simp only [edges6, anyN_step hi, ref05_Valid.b1, show decide ((i : Int) < (g.fEdges.length : Int)) = true by simp [hi], cond_true, gd (show (0 : Int) ≤ (i : Int) ∧ (i : Int) < (g.fEdges.length : Int) by omega), ref05_right_eq, Option.bind_some, gd (inR_nat (n := i) (by omega)), ih]
          cases rightB (rd g.fEdges (i : Int)) (g.fNodes.length : Int) with
          | true => simp only [Bool.not_true, cond_false, Bool.false_or]
          | false => simp only [Bool.not_false, cond_true, Bool.true_or]
      exact h4
    · simp only [nodes6] at ih
      simp only [nodes6, anyN_step hi, ref05_Valid.b0, show decide ((i : Int) < (g.fNodes.length : Int)) = true by simp [hi], cond_true, gd (show (0 : Int) ≤ (i : Int) ∧ (i : Int) < (g.fNodes.length : Int) by omega), ref05_kind_eq, Option.bind_some, gd (inR_nat (n := i) (by omega)), ih]
      cases kindB (rd g.fNodes (i : Int)) with
      | true => simp only [Bool.not_true, cond_false, Bool.false_or]
      | false => simp only [Bool.not_false, cond_true, Bool.true_or]
  have h4 : loop1 k (ref05_Valid.b0 k g) 0 = some (nodes6 g 0) := h3
  simp only [ref05_Valid, jn, h4, graphErr]
  cases decide ((g.fNodes.length : Int) > 40) <;> cases decide ((g.fEdges.length : Int) > 80) <;> rfl

structure GoodG (g : Graph) : Prop where
  nodes : g.fNodes.length ≤ 40
  edges : g.fEdges.length ≤ 80
  kind : ∀ j : Nat, j < g.fNodes.length → 0 ≤ rd g.fNodes (j : Int) ∧ rd g.fNodes (j : Int) ≤ 99
  right : ∀ j : Nat, j < g.fEdges.length → 0 ≤ (rd g.fEdges (j : Int)).fType ∧ (0 ≤ (rd g.fEdges (j : Int)).fFrom ∧ (rd g.fEdges (j : Int)).fFrom < (g.fNodes.length : Int)) ∧ (0 ≤ (rd g.fEdges (j : Int)).fTo ∧ (rd g.fEdges (j : Int)).fTo < (g.fNodes.length : Int))
theorem anyN_false {p : Nat → Bool} {i n : Nat} (h : anyN p i n = false) : ∀ j, i ≤ j → j < n → p j = false := fun j h1 h2 => by
  cases hp : p j with
  | false => rfl
  | true => rw [anyN_iff.2 ⟨j, h1, h2, hp⟩] at h; cases h
theorem anyN_none {p : Nat → Bool} {i n : Nat} (h : ∀ j, i ≤ j → j < n → p j = false) : anyN p i n = false := by
  cases hp : anyN p i n with
  | false => rfl
  | true => obtain ⟨j, h1, h2, h3⟩ := anyN_iff.1 hp; rw [h j h1 h2] at h3; cases h3
theorem graphErr_good {g : Graph} (h : graphErr g = 0) : GoodG g := by
  unfold graphErr nodes6 edges6 at h
  cases h0 : decide ((g.fNodes.length : Int) > 40) || decide ((g.fEdges.length : Int) > 80) with
  | true => rw [h0] at h; simp at h
  | false =>
    rw [h0] at h
    cases h1 : anyN (fun j => !kindB (rd g.fNodes (j : Int))) 0 g.fNodes.length with
    | true => rw [h1] at h; simp at h
    | false =>
      rw [h1] at h
      cases h2 : anyN (fun j => !rightB (rd g.fEdges (j : Int)) (g.fNodes.length : Int)) 0 g.fEdges.length with
      | true => rw [h2] at h; simp at h
      | false =>
        simp only [Bool.or_eq_false_iff, decide_eq_false_iff_not] at h0
        refine ⟨by omega, by omega, fun j hj => ?_, fun j hj => ?_⟩
        · have := anyN_false h1 j (Nat.zero_le _) hj
          simp only [kindB, Bool.not_eq_false', Bool.and_eq_true, decide_eq_true_eq] at this
          omega
        · have := anyN_false h2 j (Nat.zero_le _) hj
          simp only [rightB, kindB, ltB, Bool.not_eq_false', Bool.and_eq_true, decide_eq_true_eq] at this
          omega
theorem good_graphErr {g : Graph} (h : GoodG g) (ht : ∀ j : Nat, j < g.fEdges.length → (rd g.fEdges (j : Int)).fType ≤ 99) : graphErr g = 0 := by
  have a := h.nodes; have b := h.edges
  unfold graphErr nodes6 edges6
  have h0 : (decide ((g.fNodes.length : Int) > 40) || decide ((g.fEdges.length : Int) > 80)) = false := by simp; omega
  rw [h0, cond_false, anyN_none, cond_false, anyN_none, cond_false]
  · intro j _ hj
    have := h.right j hj; have := ht j hj
    simp [rightB, kindB, ltB]; omega
  · intro j _ hj
    have := h.kind j hj
    simp [kindB]; omega

def typedB (t : Types) (g : Graph) : Bool := !anyN (fun j => decide (rd g.fNodes (j : Int) ≥ (t.fNodes.length : Int))) 0 g.fNodes.length && !anyN (fun j => decide ((rd g.fEdges (j : Int)).fType ≥ (t.fEdges.length : Int))) 0 g.fEdges.length
def givenS (t : Types) (p g : Graph) : Int :=
  bif validS t != 0 then validS t else bif graphErr p != 0 then graphErr p else bif graphErr g != 0 then graphErr g else bif typedB t p && typedB t g then 0 else 13
structure Small (t : Types) (p g : Graph) : Prop where
  t : FewT t
  p : FewG p
  g : FewG g
structure Fine (t : Types) (p g : Graph) : Prop where
  ok : validS t = 0
  gp : GoodG p
  gg : GoodG g
  tp : typedB t p = true
  tg : typedB t g = true
/-! ### What is small -/
theorem rd_cover {α : Type} [Inhabited α] {l : List α} {P : α → Prop} (h : ∀ j : Nat, j < l.length → P (rd l (j : Int))) : ∀ x ∈ l, P x := by
  intro x hx
  obtain ⟨i, hi, rfl⟩ := List.mem_iff_getElem.1 hx
  have := h i hi
  simpa [rd, List.getD, List.getElem?_eq_getElem hi] using this
structure FewN (n : NodeType) : Prop where
  name : n.fName.length ≤ 40
  attrs : n.fAttrs.length ≤ 30
  attr : ∀ j : Nat, j < n.fAttrs.length → FewA (rd n.fAttrs (j : Int))
theorem ref04_Few_out {k : Nat} (hk : 200 ≤ k) {t : Types} (hA : ∀ n ∈ t.fNodes, n.fAttrs.length ≤ 140737488351232) : Out (ref04_Few k t) (fun b => b = true → FewT t) := by
  unfold ref04_Few; simp only [jn]
  cases h0 : decide ((t.fNodes.length : Int) > 20) with
  | true => exact ⟨false, rfl, fun h => by cases h⟩
  | false =>
    cases h1 : decide ((t.fEdges.length : Int) > 30) with
    | true => exact ⟨false, rfl, fun h => by cases h⟩
    | false =>
      simp at h0 h1
      rw [cond_false, cond_false]
      refine (loop2_out (S := Int) (P := fun _ i b => b = true → (∀ j : Nat, i ≤ j → j < t.fNodes.length → FewN (rd t.fNodes (j : Int))) ∧ (∀ j : Nat, j < t.fEdges.length → (rd t.fEdges (j : Int)).fName.length ≤ 40))
        (I := fun s _ => 0 ≤ s ∧ s ≤ 30) t.fNodes.length (fun s hs rec => ?_) (fun s i hi hs rec ih => ?_) k 0 0 (Nat.zero_le _) (by omega) (by omega)).mono fun b hb e => ?_
      · simp only [ref04_Few.b0, show decide ((t.fNodes.length : Int) < (t.fNodes.length : Int)) = false by simp, cond_false]
        refine (loop1_out (I := fun _ => True) (P := fun i b => b = true → ∀ j : Nat, i ≤ j → j < t.fEdges.length → (rd t.fEdges (j : Int)).fName.length ≤ 40) t.fEdges.length (fun _ rec => ?_) (fun i hi _ rec ih => ?_) k 0 (Nat.zero_le _) (by omega) trivial).mono fun b hb e => ?_
        · simp only [ref04_Few.b3, show decide ((t.fEdges.length : Int) < (t.fEdges.length : Int)) = false by simp, cond_false]
          exact ⟨_, rfl, fun _ j h1 h2 => by omega⟩
        · rw [ref04_Few.b3, show decide ((i : Int) < (t.fEdges.length : Int)) = true by simp [hi], cond_true, gd (show (0 : Int) ≤ (i : Int) ∧ (i : Int) < (t.fEdges.length : Int) by omega), gd (inR_nat (n := i) (by omega))]
          cases hc : decide (((rd t.fEdges (i : Int)).fName.length : Int) > 40) with
          | true => exact ⟨false, rfl, fun h => by cases h⟩
          | false =>
            simp at hc
            refine (ih trivial).mono fun b hb e j h1 h2 => ?_
            rcases Nat.eq_or_lt_of_le h1 with rfl | h3
            · omega
            · exact hb e j h3 h2
        · exact ⟨fun j h1 h2 => by omega, fun j hj => hb e j (Nat.zero_le _) hj⟩
      · have hal := hA _ (rd_mem (l := t.fNodes) (x := (i : Int)) (by omega) (by omega))
        have g1 : (0 : Int) ≤ (i : Int) ∧ (i : Int) < (t.fNodes.length : Int) := by omega
        simp only [ref04_Few.b0, jn]
        rw [show decide ((i : Int) < (t.fNodes.length : Int)) = true by simp [hi], cond_true, gd g1, gd g1, gd (inR_of (x := s + ((rd t.fNodes (i : Int)).fAttrs.length : Int)) (by omega))]
        cases hc : decide (s + ((rd t.fNodes (i : Int)).fAttrs.length : Int) > 30) with
        | true => exact ⟨false, rfl, fun h => by cases h⟩
        | false =>
          cases hd : decide (((rd t.fNodes (i : Int)).fName.length : Int) > 40) with
          | true => exact ⟨false, rfl, fun h => by cases h⟩
          | false =>
            simp at hc hd
            rw [cond_false, cond_false]
            refine (loop1_out (I := fun _ => True) (P := fun a b => b = true → (∀ j : Nat, a ≤ j → j < (rd t.fNodes (i : Int)).fAttrs.length → FewA (rd (rd t.fNodes (i : Int)).fAttrs (j : Int))) ∧ (∀ j : Nat, i + 1 ≤ j → j < t.fNodes.length → FewN (rd t.fNodes (j : Int))) ∧ (∀ j : Nat, j < t.fEdges.length → (rd t.fEdges (j : Int)).fName.length ≤ 40))
              (rd t.fNodes (i : Int)).fAttrs.length (fun _ rec1 => ?_) (fun a ha _ rec1 ih1 => ?_) k 0 (Nat.zero_le _) (by omega) trivial).mono fun b hb e => ?_
            · simp only [ref04_Few.b1, gd g1, show decide ((((rd t.fNodes (i : Int)).fAttrs.length : Nat) : Int) < ((rd t.fNodes (i : Int)).fAttrs.length : Int)) = false by simp, cond_false, gd (inR_nat (n := i) (by omega))]
              exact (ih _ (by omega)).mono fun b hb e => ⟨fun j h1 h2 => by omega, hb e⟩
            · have g2 : (0 : Int) ≤ (a : Int) ∧ (a : Int) < ((rd t.fNodes (i : Int)).fAttrs.length : Int) := by omega
              simp only [ref04_Few.b1, jn]
              rw [gd g1, gd g1, gd g2, show decide ((a : Int) < ((rd t.fNodes (i : Int)).fAttrs.length : Int)) = true by simp [ha], cond_true]
              cases he : decide (((rd (rd t.fNodes (i : Int)).fAttrs (a : Int)).fName.length : Int) > 40) with
              | true => exact ⟨false, rfl, fun h => by cases h⟩
              | false =>
                cases hf : decide (((rd (rd t.fNodes (i : Int)).fAttrs (a : Int)).fNames.length : Int) > 25) with
                | true => exact ⟨false, rfl, fun h => by cases h⟩
                | false =>
                  simp at he hf
                  rw [cond_false, cond_false]
                  refine (loop1_out (I := fun _ => True) (P := fun m b => b = true → (∀ j : Nat, m ≤ j → j < (rd (rd t.fNodes (i : Int)).fAttrs (a : Int)).fNames.length → (rd (rd (rd t.fNodes (i : Int)).fAttrs (a : Int)).fNames (j : Int)).length ≤ 40) ∧ (∀ j : Nat, a + 1 ≤ j → j < (rd t.fNodes (i : Int)).fAttrs.length → FewA (rd (rd t.fNodes (i : Int)).fAttrs (j : Int))) ∧ (∀ j : Nat, i + 1 ≤ j → j < t.fNodes.length → FewN (rd t.fNodes (j : Int))) ∧ (∀ j : Nat, j < t.fEdges.length → (rd t.fEdges (j : Int)).fName.length ≤ 40))
                    (rd (rd t.fNodes (i : Int)).fAttrs (a : Int)).fNames.length (fun _ rec2 => ?_) (fun m hm _ rec2 ih2 => ?_) k 0 (Nat.zero_le _) (by omega) trivial).mono fun b hb e => ?_
                  · simp only [ref04_Few.b2, show decide ((((rd (rd t.fNodes (i : Int)).fAttrs (a : Int)).fNames.length : Nat) : Int) < ((rd (rd t.fNodes (i : Int)).fAttrs (a : Int)).fNames.length : Int)) = false by simp, cond_false, gd (inR_nat (n := a) (by omega))]
                    exact (ih1 trivial).mono fun b hb e => ⟨fun j h1 h2 => by omega, hb e⟩
                  · rw [ref04_Few.b2, show decide ((m : Int) < ((rd (rd t.fNodes (i : Int)).fAttrs (a : Int)).fNames.length : Int)) = true by simp [hm], cond_true, gd (show (0 : Int) ≤ (m : Int) ∧ (m : Int) < ((rd (rd t.fNodes (i : Int)).fAttrs (a : Int)).fNames.length : Int) by omega), gd (inR_nat (n := m) (by omega))]
                    cases hc : decide (((rd (rd (rd t.fNodes (i : Int)).fAttrs (a : Int)).fNames (m : Int)).length : Int) > 40) with
                    | true => exact ⟨false, rfl, fun h => by cases h⟩
                    | false =>
                      simp at hc
                      refine (ih2 trivial).mono fun b hb e => ⟨fun j h1 h2 => ?_, (hb e).2⟩
                      rcases Nat.eq_or_lt_of_le h1 with rfl | h3
                      · omega
                      · exact (hb e).1 j h3 h2
                  · refine ⟨fun j h1 h2 => ?_, (hb e).2.2⟩
                    rcases Nat.eq_or_lt_of_le h1 with rfl | h3
                    · exact ⟨by omega, by omega, rd_cover fun j hj => (hb e).1 j (Nat.zero_le _) hj⟩
                    · exact (hb e).2.1 j h3 h2
            · refine ⟨fun j h1 h2 => ?_, (hb e).2.2⟩
              rcases Nat.eq_or_lt_of_le h1 with rfl | h3
              · exact ⟨by omega, by omega, fun j hj => (hb e).1 j (Nat.zero_le _) hj⟩
              · exact (hb e).2.1 j h3 h2
      · obtain ⟨hn, he⟩ := hb e
        have hn' : ∀ x ∈ t.fNodes, FewN x := rd_cover fun j hj => hn j (Nat.zero_le _) hj
        exact ⟨by omega, by omega, fun n h => (hn' n h).name, fun n h => (hn' n h).attrs, fun n h => rd_cover (hn' n h).attr, rd_cover he⟩
theorem ref05_Few_eq {k : Nat} (g : Graph) : ref05_Few k g = some (decide ((g.fNodes.length : Int) ≤ 45) && decide ((g.fEdges.length : Int) ≤ 90)) := by
  simp only [ref05_Few, jn]; cases decide ((g.fNodes.length : Int) ≤ 45) <;> rfl
structure LightP (t : Types) (p g : Graph) : Prop where
  small : Small t p g
  few : givenS t p g = 0 → p.fNodes.length + p.fEdges.length ≤ 6 ∧ g.fNodes.length ≤ 8 ∧ g.fEdges.length ≤ 12
end Go.Proofs.YthmdmchmmgmblaaGreat

namespace Go.Proofs.YthmdmchmmgmblaaGreat
open Go Go.Abs

theorem anyN_mem {l : List Int} {b : Int} : anyN (fun j => b == rd l (j : Int)) 0 l.length = decide (b ∈ l) := by
  rw [Bool.eq_iff_iff, anyN_iff, decide_eq_true_eq]
  constructor
  · rintro ⟨j, _, hj, h⟩
    have : b = rd l (j : Int) := by simpa using h
    rw [this]; exact rd_mem (by omega) (by omega)
  · intro h
    obtain ⟨i, hi, rfl⟩ := List.mem_iff_getElem.1 h
    exact ⟨i, Nat.zero_le _, hi, by simp [rd, List.getD, List.getElem?_eq_getElem hi]⟩
theorem rd_set {α : Type} [Inhabited α] {l : List α} {x y : Int} {v : α} (h0 : 0 ≤ x) (hx : x < (l.length : Int)) (hy : 0 ≤ y) : rd (l.set x.toNat v) y = if y = x then v else rd l y := by
  unfold rd
  by_cases h : y = x
  · subst h
    have : y.toNat < l.length := by omega
    simp [List.getD, List.getElem?_set, this]
  · have : ¬ x.toNat = y.toNat := by omega
    simp [List.getD, List.getElem?_set, this, h]
theorem mem_rd {l : List Int} {b : Int} : b ∈ l ↔ ∃ x : Int, 0 ≤ x ∧ x < (l.length : Int) ∧ b = rd l x := by
  constructor
  · intro h
    obtain ⟨i, hi, rfl⟩ := List.mem_iff_getElem.1 h
    exact ⟨i, by omega, by omega, by simp [rd, List.getD, List.getElem?_eq_getElem hi]⟩
  · rintro ⟨x, h0, h1, rfl⟩; exact rd_mem h0 h1
theorem swap_mem {l : List Int} {i j : Int} (hi0 : 0 ≤ i) (hi : i < (l.length : Int)) (hj0 : 0 ≤ j) (hj : j < (l.length : Int)) (b : Int) : b ∈ (l.set i.toNat (rd l j)).set j.toNat (rd l i) ↔ b ∈ l := by
  have hg : ∀ y : Int, 0 ≤ y → rd ((l.set i.toNat (rd l j)).set j.toNat (rd l i)) y = if y = j then rd l i else if y = i then rd l j else rd l y := by
    intro y hy
    rw [rd_set hj0 (by simp; omega) hy, rd_set hi0 hi hy]
  rw [mem_rd, mem_rd]
  simp only [List.length_set]
  constructor
  · rintro ⟨x, h0, h1, rfl⟩
    rw [hg x h0]
    by_cases e1 : x = j
    · rw [if_pos e1]; exact ⟨i, hi0, hi, rfl⟩
    · rw [if_neg e1]
      by_cases e2 : x = i
      · rw [if_pos e2]; exact ⟨j, hj0, hj, rfl⟩
      · rw [if_neg e2]; exact ⟨x, h0, h1, rfl⟩
  · rintro ⟨x, h0, h1, rfl⟩
    by_cases e1 : x = i
    · subst e1; exact ⟨j, hj0, hj, by rw [hg j hj0, if_pos rfl]⟩
    · by_cases e2 : x = j
      · subst e2
        exact ⟨i, hi0, hi, by rw [hg i hi0, if_neg (fun h => e1 h.symm), if_pos rfl]⟩
      · exact ⟨x, h0, h1, by rw [hg x h0, if_neg e2, if_neg e1]⟩
theorem Reverse_out : ∀ (k : Nat) (l : List Int) (i j : Int), 0 ≤ i → j < (l.length : Int) → l.length ≤ 1000000 → (j - i).toNat < k → i ≤ 1000000 → -10 ≤ j →
    Out (loop3 k slices_Reverse_int.b0 l i j) (fun r => r.length = l.length ∧ ∀ b, b ∈ r ↔ b ∈ l)
  | 0, l, i, j, _, _, _, h, _, _ => by omega
  | k + 1, l, i, j, h0, h1, h2, h3, h4, h5 => by
    unfold loop3
    cases hb : decide (i < j) with
    | false => exact ⟨l, by rw [slices_Reverse_int.b0, hb, cond_false], rfl, fun _ => Iff.rfl⟩
    | true =>
      simp at hb
      rw [slices_Reverse_int.b0, decide_eq_true hb, cond_true, gd (by omega), gd (by omega), gd (by omega), gd (by rw [List.length_set]; omega), gd (inR_of (by omega)), gd (inR_of (by omega))]
      refine (Reverse_out k _ (i + 1) (j - 1) (by omega) (by simp; omega) (by simpa using h2) (by omega) (by omega) (by omega)).mono fun r hr => ⟨by simpa using hr.1, fun b => ?_⟩
      rw [hr.2 b, swap_mem (by omega) (by omega) (by omega) (by omega)]

def chain (ns : List NodeType) : Nat → Int → List Int
  | 0, _ => []
  | d + 1, a => bif decide (a < 0) then [] else a :: chain ns d (rd ns a).fParent
theorem chain_neg {ns : List NodeType} {d : Nat} {a : Int} (h : a < 0) : chain ns d a = [] := by cases d <;> simp [chain, h]
theorem chain_pos {ns : List NodeType} {d : Nat} {a : Int} (h : 0 ≤ a) : chain ns (d + 1) a = a :: chain ns d (rd ns a).fParent := by
  have : decide (a < 0) = false := by simp; omega
  simp [chain, this]
def isB (ns : List NodeType) (a b : Int) : Bool := decide (b ∈ chain ns 100 a)
theorem line_out {K : Nat} (hK : 200 ≤ K) {t : Types} {n : Nat} (w : WfP t.fNodes n) : ∀ (d k : Nat) (a : Int) (acc : List Int), d < k → a < (d : Int) → a < (n : Int) → acc.length + d ≤ 150 →
    Out (loop2 k (types_line.b0 K t) a acc) (fun r => r.length ≤ 150 ∧ ∀ b, b ∈ r ↔ b ∈ acc ∨ b ∈ chain t.fNodes d a)
  | d, 0, _, _, h, _, _, _ => by omega
  | d, k + 1, a, acc, hk, hd, hn, hl => by
    unfold loop2
    rcases Int.lt_or_le a 0 with ha | ha
    · rw [types_line.b0, decide_eq_false (show ¬ a ≥ 0 by omega), cond_false, slices_Reverse_int, gd (inR_of (by omega))]
      refine Out.bind (Reverse_out K acc 0 _ (by omega) (by omega) (by omega) (by omega) (by omega) (by omega)) fun r hr => ⟨r, rfl, by omega, fun b => ?_⟩
      rw [hr.2, chain_neg ha]; simp
    · obtain ⟨d, rfl⟩ : ∃ e, d = e + 1 := ⟨d - 1, by omega⟩
      have hw := wf_at w ha hn
      have hn' := w.1
      rw [types_line.b0, decide_eq_true (show a ≥ 0 by omega), cond_true, gd (by simp [lim]; omega), gd (by omega)]
      refine (line_out hK w d k _ (acc ++ [a]) (by omega) (by omega) (by omega) (by simp; omega)).mono fun r hr => ⟨hr.1, fun b => ?_⟩
      rw [hr.2, chain_pos ha]; simp [or_assoc]
theorem types_is_eq {k : Nat} (hk : 200 ≤ k) {t : Types} {n : Nat} (w : WfP t.fNodes n) (hn : n ≤ 50) {a b : Int} (ha : a < (n : Int)) : types_is k t a b = some (isB t.fNodes a b) := by
  unfold types_is types_line
  obtain ⟨r, e, h1, h2⟩ := line_out (K := k) hk w 100 k a [] (by omega) (by omega) ha (by simp)
  rw [e, Option.bind_some, Contains_int _ _ (by omega) (by omega), Option.bind_some, anyN_mem]
  congr 1
  unfold isB
  rw [Bool.eq_iff_iff, decide_eq_true_eq, decide_eq_true_eq, h2]; simp
theorem Below1_eq {t : Types} {n : Nat} (w : WfP t.fNodes n) {b : Int} (hb : 0 ≤ b) : ∀ (d k : Nat) (a : Int), d < k → -1 ≤ a → a < (d : Int) → a < (n : Int) → ref04_Below1 k t a b = some (decide (b ∈ chain t.fNodes d a))
  | d, 0, _, h, _, _, _ => by omega
  | d, k + 1, a, hk, h1, hd, hn => by
    unfold ref04_Below1 ref04_Below1.main
    rcases Int.lt_or_le a 0 with ha | ha
    · have e1 : (a == b) = false := by simp; omega
      rw [jn, e1, cond_false, decide_eq_false (show ¬ a ≥ 0 by omega), cond_false, chain_neg ha]
      simp
    · obtain ⟨d, rfl⟩ : ∃ e, d = e + 1 := ⟨d - 1, by omega⟩
      have hw := wf_at w ha hn
      have hn' := w.1
      rw [jn, chain_pos ha]
      by_cases e : a = b
      · subst e; simp
      · have e1 : (a == b) = false := by simp [e]
        rw [e1, cond_false, decide_eq_true (show a ≥ 0 by omega), cond_true, gd (by omega), Below1_eq w hb d k _ (by omega) (by omega) (by omega) (by omega), Option.bind_some]
        congr 1
        rw [Bool.eq_iff_iff, decide_eq_true_eq, decide_eq_true_eq, List.mem_cons]
        exact ⟨.inr, fun h => h.resolve_left fun h => e h.symm⟩
theorem ref04_Below1_eq {k : Nat} (hk : 200 ≤ k) {t : Types} {n : Nat} (w : WfP t.fNodes n) (hn : n ≤ 50) {a b : Int} (h0 : 0 ≤ a) (ha : a < (n : Int)) (hb : 0 ≤ b) : ref04_Below1 k t a b = some (isB t.fNodes a b) :=
  Below1_eq w hb 100 k a (by omega) (by omega) (by omega) ha

theorem types_given_eq {k : Nat} (hk : 200 ≤ k) {t : Types} (ht : FewT t) (hv : validS t = 0) {a : Int} (h0 : 0 ≤ a) (ha : a < (t.fNodes.length : Int)) : types_given k t [a] = some 0 := by
  obtain ⟨r, e, hr⟩ := types_Valid_out hk ht
  unfold types_given
  rw [e, Option.bind_some, hr, hv]
  rw [ContainsFunc_int (k := k) [a] (fun x => types_given_1 k x t) (fun j => decide (rd [a] (j : Int) < 0) || decide (rd [a] (j : Int) ≥ (t.fNodes.length : Int))) (by simp; omega) (by simp) (fun j _ => by
    simp only [types_given_1, jn]; cases decide (rd [a] (j : Int) < 0) <;> rfl)]
  rw [anyN_none fun j _ hj => ?_]
  · rfl
  · have : j = 0 := by simp at hj; omega
    subst this
    have e : rd [a] ((0 : Nat) : Int) = a := rfl
    rw [e, decide_eq_false (by omega), decide_eq_false (by omega)]; rfl
structure Table (ns : List NodeType) (M : List (List Bool)) (i : Nat) : Prop where
  len : M.length = i
  row : ∀ a : Nat, a < i → (rd M (a : Int)).length = ns.length
  at' : ∀ a : Nat, a < i → ∀ b : Nat, b < ns.length → rd (rd M (a : Int)) (b : Int) = isB ns (b : Int) (a : Int)
end Go.Proofs.YthmdmchmmgmblaaGreat

namespace Go.Proofs.YthmdmchmmgmblaaGreat
open Go Go.Abs

/-- The pattern with the types of the images. -/
structure InstP (p g : Graph) (m : Morphism) (r : Graph × Int) : Prop where
  ok : r.2 = 0
  edges : r.1.fEdges = p.fEdges
  len : r.1.fNodes.length = m.fNodes.length
  at' : ∀ j : Nat, j < m.fNodes.length → rd r.1.fNodes (j : Int) = rd g.fNodes (rd m.fNodes (j : Int))
end Go.Proofs.YthmdmchmmgmblaaGreat

namespace Go.Proofs.YthmdmchmmgmblaaGreat
open Go Go.Abs

/-- A problem: pattern, graph, node types, given images (-1: none), injective or not. -/
structure Pb where
  p : Graph
  g : Graph
  ns : List NodeType
  pn : Int → Int
  pe : Int → Int
  inj : Bool
def eqE (q : Pb) (l : List Int) (i k : Int) : Bool :=
  ((rd q.p.fEdges i).fType == (rd q.g.fEdges k).fType) && (((rd q.g.fEdges k).fFrom == rd l (rd q.p.fEdges i).fFrom) && ((rd q.g.fEdges k).fTo == rd l (rd q.p.fEdges i).fTo))
/-! ### A pruned branch holds nothing -/
/-! ### Loops that carry what is found -/
/-! ### The program's way -/
/-- What a search is about; the sizes are those of a light case. -/
structure Ctx (q : Pb) : Prop where
  gp : GoodG q.p
  gg : GoodG q.g
  tp : ∀ j : Nat, j < q.p.fNodes.length → rd q.p.fNodes (j : Int) < (q.ns.length : Int)
  tg : ∀ j : Nat, j < q.g.fNodes.length → rd q.g.fNodes (j : Int) < (q.ns.length : Int)
  wf : WfP q.ns q.ns.length
  few : q.ns.length ≤ 50
end Go.Proofs.YthmdmchmmgmblaaGreat

namespace Go.Proofs.YthmdmchmmgmblaaGreat
open Go Go.Abs

/-! ### The reference's way -/
structure RefP (q : Pb) (t : Types) (part : Morphism) : Prop where
  ns : t.fNodes = q.ns
  ln : part.fNodes.length = q.p.fNodes.length
  le : part.fEdges.length = q.p.fEdges.length
  pn : ∀ i : Nat, i < q.p.fNodes.length → rd part.fNodes (i : Int) = q.pn (i : Int)
  pe : ∀ i : Nat, i < q.p.fEdges.length → rd part.fEdges (i : Int) = q.pe (i : Int)
end Go.Proofs.YthmdmchmmgmblaaGreat

namespace Go.Proofs.YthmdmchmmgmblaaGreat
open Go Go.Abs

/-- A match without images. -/
structure AllNeg (p : Graph) (m : Morphism) : Prop where
  ln : m.fNodes.length = p.fNodes.length
  le : m.fEdges.length = p.fEdges.length
  n : ∀ i : Nat, i < p.fNodes.length → rd m.fNodes (i : Int) = -1
  e : ∀ i : Nat, i < p.fEdges.length → rd m.fEdges (i : Int) = -1
end Go.Proofs.YthmdmchmmgmblaaGreat

namespace Go.Proofs.YthmdmchmmgmblaaGreat
open Go Go.Abs

/-! ### All: what is found is a match, and in order -/
structure EdgesOk (q : Pb) (l e : List Int) : Prop where
  fit : ∀ i : Nat, i < e.length → 0 ≤ rd e (i : Int) ∧ rd e (i : Int) < (q.g.fEdges.length : Int) ∧ eqE q l (i : Int) (rd e (i : Int)) = true
  inj : q.inj = true → e.Nodup
structure NodesOk (q : Pb) (l : List Int) : Prop where
  fit : ∀ i : Nat, i < l.length → 0 ≤ rd l (i : Int) ∧ rd l (i : Int) < (q.g.fNodes.length : Int) ∧ isB q.ns (rd q.g.fNodes (rd l (i : Int))) (rd q.p.fNodes (i : Int)) = true
  inj : q.inj = true → l.Nodup
end Go.Proofs.YthmdmchmmgmblaaGreat

namespace Go.Proofs.YthmdmchmmgmblaaGreat
open Go Go.Abs

theorem set_rd {α : Type} [Inhabited α] {l : List α} {i : Nat} (hi : i < l.length) : l.set i (rd l (i : Int)) = l := by
  have : rd l (i : Int) = l[i] := by simp [rd, List.getD, List.getElem?_eq_getElem hi]
  rw [this, List.set_getElem_self]
theorem take_rdA {α : Type} [Inhabited α] {l : List α} {i : Nat} (hi : i < l.length) : l.take (i + 1) = l.take i ++ [rd l (i : Int)] := by
  have : rd l (i : Int) = l[i] := by simp [rd, List.getD, List.getElem?_eq_getElem hi]
  rw [this, List.take_succ_eq_append_getElem hi]
theorem Attrs_eq {k : Nat} (hk : 1000 ≤ k) {t : Types} (ht : FewT t) (hv : validS t = 0) {a : Int} (h0 : 0 ≤ a) (ha : a < (t.fNodes.length : Int)) : types_Attrs k t a = some (attrsS t.fNodes t.fNodes.length a, 0) := by
  obtain ⟨w, h12, _⟩ := valid_wf hv
  have hl := attrsS_len w (fun x hx => ht.nattr x hx) t.fNodes.length a ha
  have hA := attrsS_all (G := FewA) w (fun x hx => ht.attr x hx) t.fNodes.length a ha
  unfold types_Attrs
  rw [types_given_eq (by omega) ht hv h0 ha, Option.bind_some, bne_self_eq_false, cond_false, types_attrs_eq w (fun x hx => ht.nattr x hx) t.fNodes.length k a (by omega) (by omega) h0 ha ha, Option.bind_some]
  generalize attrsS t.fNodes t.fNodes.length a = l at *
  refine Out.eq (loop2_out (S := List Attr) (P := fun _ _ r => r = (l, 0)) (I := fun s _ => s = l) l.length (fun s hs rec => ?_) (fun s i hi hs rec ih => ?_) k 0 l (Nat.zero_le _) (by omega) rfl)
  · rw [types_Attrs.b0, decide_eq_false (show ¬ (l.length : Int) < (l.length : Int) by omega), cond_false, hs]; exact ⟨_, rfl, rfl⟩
  · subst hs
    have hf := (hA _ (rd_mem (l := s) (x := (i : Int)) (by omega) (by omega))).names
    rw [types_Attrs.b0, decide_eq_true (show (i : Int) < (s.length : Int) by omega), cond_true, gd ⟨by omega, by omega⟩]
    unfold slices_Clone_string
    rw [gd (show (rd s (i : Int)).fNames.length ≤ lim by unfold lim; omega), Option.bind_some, gd ⟨by omega, by omega⟩, gd (inR_nat (n := i) (by omega))]
    exact ih _ (set_rd hi)
theorem ref04_given_eq {k : Nat} (hk : 200 ≤ k) {t : Types} (ht : FewT t) (hv : validS t = 0) {a b : Int} (h0 : 0 ≤ a) (ha : a < (t.fNodes.length : Int)) (g0 : 0 ≤ b) (gb : b < (t.fNodes.length : Int)) : ref04_given k t a b = some 0 := by
  obtain ⟨r, e, hr⟩ := ref04_Valid_out hk ht
  have h20 := ht.nodes
  unfold ref04_given jn; dsimp only
  rw [e, Option.bind_some, hr, hv, bne_self_eq_false, cond_false, gd (inR_of (by omega)), ref04_in_eq, Option.bind_some]
  rw [decide_eq_true (show a ≥ 0 by omega), decide_eq_true (show a ≤ (t.fNodes.length : Int) - 1 by omega), Bool.and_true, Bool.not_true, cond_false, gd (inR_of (by omega)), ref04_in_eq, Option.bind_some]
  rw [decide_eq_true (show b ≥ 0 by omega), decide_eq_true (show b ≤ (t.fNodes.length : Int) - 1 by omega)]; rfl
theorem ref04_Attrs_eq {k : Nat} (hk : 1000 ≤ k) {t : Types} (ht : FewT t) (hv : validS t = 0) {a : Int} (h0 : 0 ≤ a) (ha : a < (t.fNodes.length : Int)) : ref04_Attrs k t a = some (attrsS t.fNodes t.fNodes.length a, 0) := by
  obtain ⟨w, h12, _⟩ := valid_wf hv
  have hl := attrsS_len w (fun x hx => ht.nattr x hx) t.fNodes.length a ha
  have hA := attrsS_all (G := FewA) w (fun x hx => ht.attr x hx) t.fNodes.length a ha
  unfold ref04_Attrs
  rw [ref04_given_eq (by omega) ht hv h0 ha h0 ha, Option.bind_some, bne_self_eq_false, cond_false, ref04_attrs_eq w (fun x hx => ht.nattr x hx) t.fNodes.length k a (by omega) (by omega) ha ha, Option.bind_some]
  generalize attrsS t.fNodes t.fNodes.length a = l at *
  refine Out.eq (loop2_out (S := List Attr) (P := fun _ _ r => r = (l, 0)) (I := fun s i => s = l.take i) l.length (fun s hs rec => ?_) (fun s i hi hs rec ih => ?_) k 0 [] (Nat.zero_le _) (by omega) rfl)
  · rw [ref04_Attrs.b0, decide_eq_false (show ¬ (l.length : Int) < (l.length : Int) by omega), cond_false, hs, List.take_length]; exact ⟨_, rfl, rfl⟩
  · have hf := (hA _ (rd_mem (l := l) (x := (i : Int)) (by omega) (by omega))).names
    have hsl : s.length ≤ 360 := by rw [hs, List.length_take]; omega
    rw [ref04_Attrs.b0, decide_eq_true (show (i : Int) < (l.length : Int) by omega), cond_true, gd ⟨by omega, by omega⟩, gd (show (rd l (i : Int)).fNames.length ≤ lim by unfold lim; omega), gd (show s.length + [rd l (i : Int)].length ≤ lim by unfold lim; simp; omega), gd (inR_nat (n := i) (by omega))]
    exact ih _ (by rw [hs, take_rdA hi])
end Go.Proofs.YthmdmchmmgmblaaGreat

namespace Go.Proofs.YthmdmchmmgmblaaGreat
open Go Go.Abs

/-- A type graph without error, and a graph whose nodes have its types. -/
structure Over (t : Types) (g : Graph) : Prop where
  few : FewT t
  val : validS t = 0
  nodes : ∀ x ∈ g.fNodes, 0 ≤ x ∧ x < (t.fNodes.length : Int)
  len : g.fNodes.length ≤ 45
theorem Over.attrs {t : Types} {g : Graph} (h : Over t g) {n : Int} (h0 : 0 ≤ n) (h1 : n < (g.fNodes.length : Int)) : (attrsS t.fNodes t.fNodes.length (rd g.fNodes n)).length ≤ 360 := by
  obtain ⟨w, h12, _⟩ := valid_wf h.val
  have hm := h.nodes _ (rd_mem h0 h1)
  have := attrsS_len w (fun x hx => h.few.nattr x hx) t.fNodes.length _ hm.2
  omega
/-! ### Tests -/
end Go.Proofs.YthmdmchmmgmblaaGreat

namespace Go.Proofs.YthmdmchmmgmblaaGreat
open Go Go.Abs

def firstF (e : Nat → Int) (z : Int × Int) : Nat → Nat → Int × Int
  | _, 0 => z
  | i, d + 1 => bif e i != 0 then ((i : Int), e i) else firstF e z (i + 1) d
/-- The first place with an error, and it; else 'z'. -/
def first (e : Nat → Int) (z : Int × Int) (i n : Nat) : Int × Int := firstF e z i (n - i)
theorem first_end {e : Nat → Int} {z : Int × Int} {n : Nat} : first e z n n = z := by simp [first, firstF]
theorem first_step {e : Nat → Int} {z : Int × Int} {i n : Nat} (h : i < n) : first e z i n = bif e i != 0 then ((i : Int), e i) else first e z (i + 1) n := by
  have : n - i = (n - (i + 1)) + 1 := by omega
  unfold first; rw [this]; rfl
theorem valid_edge {t : Types} (h : validS t = 0) {j : Nat} (hj : j < t.fEdges.length) : insB (rd t.fEdges (j : Int)).fFrom t = true ∧ insB (rd t.fEdges (j : Int)).fTo t = true := by
  unfold validS at h
  cases h0 : ((t.fNodes.length : Int) == 0) with
  | true => rw [h0] at h; cases h
  | false =>
    cases h1 : decide ((t.fNodes.length : Int) > 12) || decide ((t.fEdges.length : Int) > 20) with
    | true => rw [h0, h1] at h; cases h
    | false =>
      rw [h0, h1, cond_false, cond_false] at h
      unfold valid2S at h
      cases h2 : (scan (nodeErr t) 0 t.fNodes.length != 0) with
      | true => rw [h2, cond_true] at h; rw [h] at h2; cases h2
      | false =>
        rw [h2, cond_false] at h
        have he := scan_zero h j (Nat.zero_le _) hj
        unfold edgeErr at he
        cases a1 : isNameB (rd t.fEdges (j : Int)).fName with
        | false => rw [a1] at he; cases he
        | true =>
          cases a2 : anyN (fun q => (rd t.fEdges (q : Int)).fName == (rd t.fEdges (j : Int)).fName) 0 j with
          | true => rw [a1, a2] at he; cases he
          | false =>
            cases a3 : insB (rd t.fEdges (j : Int)).fFrom t with
            | false => rw [a1, a2, a3] at he; cases he
            | true =>
              cases a4 : insB (rd t.fEdges (j : Int)).fTo t with
              | false => rw [a1, a2, a3, a4] at he; cases he
              | true => exact ⟨rfl, rfl⟩
theorem insB_range {a : Int} {t : Types} (h : insB a t = true) : 0 ≤ a ∧ a < (t.fNodes.length : Int) := by
  unfold insB at h; simpa using h
theorem types_given2_eq {k : Nat} (hk : 200 ≤ k) {t : Types} (ht : FewT t) (hv : validS t = 0) {a b : Int} (h0 : 0 ≤ a) (ha : a < (t.fNodes.length : Int)) (g0 : 0 ≤ b) (gb : b < (t.fNodes.length : Int)) : types_given k t [a, b] = some 0 := by
  obtain ⟨r, e, hr⟩ := types_Valid_out hk ht
  unfold types_given
  rw [e, Option.bind_some, hr, hv]
  rw [ContainsFunc_int (k := k) [a, b] (fun x => types_given_1 k x t) (fun j => decide (rd [a, b] (j : Int) < 0) || decide (rd [a, b] (j : Int) ≥ (t.fNodes.length : Int))) (by simp; omega) (by simp) (fun j _ => by
    simp only [types_given_1, jn]; cases decide (rd [a, b] (j : Int) < 0) <;> rfl)]
  rw [anyN_none fun j _ hj => ?_]
  · rfl
  · have : j = 0 ∨ j = 1 := by simp at hj; omega
    rcases this with rfl | rfl
    · have e : rd [a, b] ((0 : Nat) : Int) = a := rfl
      rw [e, decide_eq_false (by omega), decide_eq_false (by omega)]; rfl
    · have e : rd [a, b] ((1 : Nat) : Int) = b := rfl
      rw [e, decide_eq_false (by omega), decide_eq_false (by omega)]; rfl
def fitsB (t : Types) (e a b : Int) : Bool := isB t.fNodes a (rd t.fEdges e).fFrom && isB t.fNodes b (rd t.fEdges e).fTo
theorem Fits_eq {k : Nat} (hk : 200 ≤ k) {t : Types} (ht : FewT t) (hv : validS t = 0) {e a b : Int} (e0 : 0 ≤ e) (e1 : e < (t.fEdges.length : Int)) (h0 : 0 ≤ a) (ha : a < (t.fNodes.length : Int)) (g0 : 0 ≤ b) (gb : b < (t.fNodes.length : Int)) :
    types_Fits k t e a b = some (fitsB t e a b) := by
  obtain ⟨w, h12, _⟩ := valid_wf hv
  unfold types_Fits fitsB jn; dsimp only
  rw [types_given2_eq hk ht hv h0 ha g0 gb, Option.bind_some, bne_self_eq_false, cond_false, decide_eq_false (show ¬ e < 0 by omega), cond_false, decide_eq_false (show ¬ e ≥ (t.fEdges.length : Int) by omega), cond_false, gd ⟨e0, e1⟩, types_is_eq hk w (by omega) ha, Option.bind_some]
  cases isB t.fNodes a (rd t.fEdges e).fFrom with
  | false => rfl
  | true => rw [cond_true, gd ⟨e0, e1⟩, types_is_eq hk w (by omega) gb]; rfl
theorem ref_Fits_eq {k : Nat} (hk : 200 ≤ k) {t : Types} (ht : FewT t) (hv : validS t = 0) {e a b : Int} (e0 : 0 ≤ e) (e1 : e < (t.fEdges.length : Int)) (h0 : 0 ≤ a) (ha : a < (t.fNodes.length : Int)) (g0 : 0 ≤ b) (gb : b < (t.fNodes.length : Int)) :
    ref04_Fits k t e a b = some (fitsB t e a b) := by
  obtain ⟨w, h12, h20⟩ := valid_wf hv
  have hE := valid_edge hv (j := e.toNat) (by omega)
  rw [Int.toNat_of_nonneg e0] at hE
  have f1 := insB_range hE.1; have f2 := insB_range hE.2
  unfold ref04_Fits fitsB jn; dsimp only
  rw [ref04_given_eq hk ht hv h0 ha g0 gb, Option.bind_some, bne_self_eq_false, cond_false, gd (inR_of (by omega)), ref04_in_eq, Option.bind_some, decide_eq_true (show e ≥ 0 by omega), decide_eq_true (show e ≤ (t.fEdges.length : Int) - 1 by omega), Bool.and_true, Bool.not_true, cond_false, gd ⟨e0, e1⟩,
    ref04_Below1_eq hk w (by omega) h0 ha f1.1, Option.bind_some]
  cases isB t.fNodes a (rd t.fEdges e).fFrom with
  | false => rfl
  | true => rw [cond_true, gd ⟨e0, e1⟩, ref04_Below1_eq hk w (by omega) g0 gb f2.1]; rfl
def outB (l : List Attr) (vs : List Int) (i : Nat) : Bool := decide (rd vs (i : Int) < (rd l (i : Int)).fLow) || decide (rd vs (i : Int) > (rd l (i : Int)).fHigh)
def nodeV (t : Types) (kind : Int) (vs : List Int) : Int :=
  bif decide (kind ≥ (t.fNodes.length : Int)) then 6 else bif (rd t.fNodes kind).fAbstract then 13 else bif ((vs.length : Int) != ((attrsS t.fNodes t.fNodes.length kind).length : Int)) then 20
  else bif anyN (outB (attrsS t.fNodes t.fNodes.length kind) vs) 0 (attrsS t.fNodes t.fNodes.length kind).length then 6 else 0
theorem node_eq {k : Nat} (hk : 1000 ≤ k) {t : Types} (ht : FewT t) (hv : validS t = 0) {a : Int} (h0 : 0 ≤ a) (vs : List Int) : host_node k t a vs = some (nodeV t a vs) := by
  obtain ⟨w, h12, _⟩ := valid_wf hv
  unfold host_node nodeV
  by_cases c : a ≥ (t.fNodes.length : Int)
  · rw [decide_eq_true c]; rfl
  · have ha : a < (t.fNodes.length : Int) := by omega
    have hl := attrsS_len w (fun x hx => ht.nattr x hx) t.fNodes.length a ha
    rw [decide_eq_false c, cond_false, cond_false, gd ⟨h0, ha⟩, Attrs_eq hk ht hv h0 ha, Option.bind_some]
    cases (rd t.fNodes a).fAbstract with
    | true => rfl
    | false =>
      rw [cond_false, cond_false]
      generalize attrsS t.fNodes t.fNodes.length a = l at *
      cases c2 : ((vs.length : Int) != (l.length : Int)) with
      | true => rfl
      | false =>
        have c2' : (vs.length : Int) = (l.length : Int) := by simpa using c2
        rw [cond_false, cond_false]
        refine loop1_eq (fun i => bif anyN (outB l vs) i l.length then 6 else 0) l.length (fun rec => ?_) (fun i hi rec ih => ?_) (k := k) (i := 0) (Nat.zero_le _) (by omega)
        · rw [host_node.b0, decide_eq_false (show ¬ (l.length : Int) < (l.length : Int) by omega), cond_false, anyN_end]; rfl
        · rw [host_node.b0]; unfold jn; dsimp only
          rw [decide_eq_true (show (i : Int) < (l.length : Int) by omega), cond_true, gd ⟨by omega, by omega⟩, gd (show (0 : Int) ≤ (i : Int) ∧ (i : Int) < (vs.length : Int) by omega), gd (inR_nat (n := i) (by omega)), ih, anyN_step hi, outB]
          cases decide (rd vs (i : Int) < (rd l (i : Int)).fLow) with
          | true => rfl
          | false => rw [cond_false, gd (show (0 : Int) ≤ (i : Int) ∧ (i : Int) < (vs.length : Int) by omega)]; cases decide (rd vs (i : Int) > (rd l (i : Int)).fHigh) <;> rfl
theorem ref_node_eq {k : Nat} (hk : 1000 ≤ k) {t : Types} (ht : FewT t) (hv : validS t = 0) {a : Int} (h0 : 0 ≤ a) (vs : List Int) : ref15_node k t a vs = some (nodeV t a vs) := by
  obtain ⟨w, h12, _⟩ := valid_wf hv
  unfold ref15_node nodeV
  by_cases c : a ≥ (t.fNodes.length : Int)
  · rw [decide_eq_true c]; rfl
  · have ha : a < (t.fNodes.length : Int) := by omega
    have hl := attrsS_len w (fun x hx => ht.nattr x hx) t.fNodes.length a ha
    rw [decide_eq_false c, cond_false, cond_false, gd ⟨h0, ha⟩, ref04_Attrs_eq hk ht hv h0 ha, Option.bind_some]
    cases (rd t.fNodes a).fAbstract with
    | true => rfl
    | false =>
      rw [cond_false, cond_false]
      generalize attrsS t.fNodes t.fNodes.length a = l at *
      cases c2 : ((vs.length : Int) != (l.length : Int)) with
      | true => rfl
      | false =>
        have c2' : (vs.length : Int) = (l.length : Int) := by simpa using c2
        have gv : ∀ i, i < l.length → (0 : Int) ≤ (i : Int) ∧ (i : Int) < (vs.length : Int) := fun i hi => by omega
        have gl : ∀ i, i < l.length → (0 : Int) ≤ (i : Int) ∧ (i : Int) < (l.length : Int) := fun i hi => by omega
        rw [cond_false, cond_false]
        refine loop1_eq (fun i => bif anyN (outB l vs) i l.length then 6 else 0) l.length (fun rec => ?_) (fun i hi rec ih => ?_) (k := k) (i := 0) (Nat.zero_le _) (by omega)
        · rw [ref15_node.b0, decide_eq_false (show ¬ (l.length : Int) < (l.length : Int) by omega), cond_false, anyN_end]; rfl
        · rw [ref15_node.b0]; unfold jn; dsimp only
          rw [decide_eq_true (show (i : Int) < (l.length : Int) by omega), cond_true, gd (gv i hi), gd (gl i hi), gd (inR_nat (n := i) (by omega)), ih, anyN_step hi, outB]
          cases decide (rd vs (i : Int) < (rd l (i : Int)).fLow) with
          | true => rfl
          | false => rw [cond_false, gd (gv i hi), gd (gl i hi)]; cases decide (rd vs (i : Int) > (rd l (i : Int)).fHigh) <;> rfl
end Go.Proofs.YthmdmchmmgmblaaGreat

namespace Go.Proofs.YthmdmchmmgmblaaGreat
open Go Go.Abs

def edgeV (t : Types) (g : Graph) (i : Nat) : Int :=
  bif decide ((rd g.fEdges (i : Int)).fType ≥ (t.fEdges.length : Int)) then 6 else bif fitsB t (rd g.fEdges (i : Int)).fType (rd g.fNodes (rd g.fEdges (i : Int)).fFrom) (rd g.fNodes (rd g.fEdges (i : Int)).fTo) then 0 else 13
def hostN (t : Types) (h : Host) (i : Nat) : Int × Int := first (fun i => nodeV t (rd h.fGraph.fNodes (i : Int)) (rd h.fValues (i : Int))) (first (edgeV t h.fGraph) (-1, 0) 0 h.fGraph.fEdges.length) i h.fGraph.fNodes.length
def hostV (t : Types) (h : Host) : Int × Int :=
  bif validS t != 0 then (-1, validS t) else bif graphErr h.fGraph != 0 then (-1, graphErr h.fGraph) else bif ((h.fValues.length : Int) != (h.fGraph.fNodes.length : Int)) then (-1, 20) else hostN t h 0
/-- No node is wrong: all nodes have a type. -/
theorem nodes_typed {t : Types} {h : Host} {n : Nat} (hk : ∀ i, i < n → nodeV t (rd h.fGraph.fNodes (i : Int)) (rd h.fValues (i : Int)) = 0) : ∀ i, i < n → rd h.fGraph.fNodes (i : Int) < (t.fNodes.length : Int) := fun i hi => by
  have := hk i hi
  unfold nodeV at this
  by_cases c : rd h.fGraph.fNodes (i : Int) ≥ (t.fNodes.length : Int)
  · rw [decide_eq_true c] at this; cases this
  · omega
theorem host_edges {k : Nat} (hk : 1000 ≤ k) {t : Types} {h : Host} (ht : FewT t) (hv : validS t = 0) (hg : GoodG h.fGraph) (hn : ∀ i, i < h.fGraph.fNodes.length → rd h.fGraph.fNodes (i : Int) < (t.fNodes.length : Int)) :
    loop1 k (host_Valid.b1 k t h) 0 = some (first (edgeV t h.fGraph) (-1, 0) 0 h.fGraph.fEdges.length) ∧ loop1 k (ref15_Valid.b1 k t h) 0 = some (first (edgeV t h.fGraph) (-1, 0) 0 h.fGraph.fEdges.length) := by
  have h1 := hg.nodes; have h2 := hg.edges
  have nd : ∀ x : Int, 0 ≤ x → x < (h.fGraph.fNodes.length : Int) → 0 ≤ rd h.fGraph.fNodes x ∧ rd h.fGraph.fNodes x < (t.fNodes.length : Int) := fun x x0 x1 => by
    have a := (hg.kind x.toNat (by omega)).1; have b := hn x.toNat (by omega)
    rw [Int.toNat_of_nonneg x0] at a b
    exact ⟨a, b⟩
  constructor
  · refine loop1_eq (fun i => first (edgeV t h.fGraph) (-1, 0) i h.fGraph.fEdges.length) h.fGraph.fEdges.length (fun rec => ?_) (fun i hi rec ih => ?_) (k := k) (i := 0) (Nat.zero_le _) (by omega)
    · rw [host_Valid.b1, decide_eq_false (show ¬ (h.fGraph.fEdges.length : Int) < (h.fGraph.fEdges.length : Int) by omega), cond_false, first_end]
    · obtain ⟨r0, ⟨r1, r2⟩, r3, r4⟩ := hg.right i hi
      have n1 := nd _ r1 r2; have n2 := nd _ r3 r4
      rw [host_Valid.b1, decide_eq_true (show (i : Int) < (h.fGraph.fEdges.length : Int) by omega), cond_true, gd ⟨by omega, by omega⟩, first_step hi, edgeV]
      by_cases c : (rd h.fGraph.fEdges (i : Int)).fType ≥ (t.fEdges.length : Int)
      · rw [decide_eq_true c]; rfl
      · rw [decide_eq_false c, cond_false, gd ⟨r1, r2⟩, gd ⟨r3, r4⟩, Fits_eq (by omega) ht hv r0 (by omega) n1.1 n1.2 n2.1 n2.2, Option.bind_some, gd (inR_nat (n := i) (by omega)), ih, cond_false]
        cases fitsB t (rd h.fGraph.fEdges (i : Int)).fType (rd h.fGraph.fNodes (rd h.fGraph.fEdges (i : Int)).fFrom) (rd h.fGraph.fNodes (rd h.fGraph.fEdges (i : Int)).fTo) <;> rfl
  · refine loop1_eq (fun i => first (edgeV t h.fGraph) (-1, 0) i h.fGraph.fEdges.length) h.fGraph.fEdges.length (fun rec => ?_) (fun i hi rec ih => ?_) (k := k) (i := 0) (Nat.zero_le _) (by omega)
    · rw [ref15_Valid.b1, decide_eq_false (show ¬ (h.fGraph.fEdges.length : Int) < (h.fGraph.fEdges.length : Int) by omega), cond_false, first_end]
    · obtain ⟨r0, ⟨r1, r2⟩, r3, r4⟩ := hg.right i hi
      have n1 := nd _ r1 r2; have n2 := nd _ r3 r4
      rw [ref15_Valid.b1, decide_eq_true (show (i : Int) < (h.fGraph.fEdges.length : Int) by omega), cond_true, gd ⟨by omega, by omega⟩, first_step hi, edgeV]
      by_cases c : (rd h.fGraph.fEdges (i : Int)).fType ≥ (t.fEdges.length : Int)
      · rw [decide_eq_true c]; rfl
      · rw [decide_eq_false c, cond_false, gd ⟨r1, r2⟩, gd ⟨r3, r4⟩, ref_Fits_eq (by omega) ht hv r0 (by omega) n1.1 n1.2 n2.1 n2.2, Option.bind_some, gd (inR_nat (n := i) (by omega)), ih, cond_false]
        cases fitsB t (rd h.fGraph.fEdges (i : Int)).fType (rd h.fGraph.fNodes (rd h.fGraph.fEdges (i : Int)).fFrom) (rd h.fGraph.fNodes (rd h.fGraph.fEdges (i : Int)).fTo) <;> rfl
theorem host_nodes {k : Nat} (hk : 1000 ≤ k) {t : Types} {h : Host} (ht : FewT t) (hv : validS t = 0) (hg : GoodG h.fGraph) (hl : h.fValues.length = h.fGraph.fNodes.length) :
    loop1 k (host_Valid.b0 k t h) 0 = some (hostN t h 0) ∧ loop1 k (ref15_Valid.b0 k t h) 0 = some (hostN t h 0) := by
  have h1 := hg.nodes; have h2 := hg.edges
  constructor
  · refine Out.eq (loop1_out (I := fun i => ∀ j, j < i → nodeV t (rd h.fGraph.fNodes (j : Int)) (rd h.fValues (j : Int)) = 0) (P := fun i r => r = hostN t h i) h.fGraph.fNodes.length (fun hI rec => ?_) (fun i hi hI rec ih => ?_) k 0 (Nat.zero_le _) (by omega) (fun j hj => by omega))
    · rw [host_Valid.b0, decide_eq_false (show ¬ (h.fGraph.fNodes.length : Int) < (h.fGraph.fNodes.length : Int) by omega), cond_false, (host_edges hk ht hv hg (nodes_typed hI)).1, hostN, first_end]
      exact ⟨_, rfl, rfl⟩
    · have r0 := (hg.kind i hi).1
      rw [host_Valid.b0, decide_eq_true (show (i : Int) < (h.fGraph.fNodes.length : Int) by omega), cond_true, gd ⟨by omega, by omega⟩, gd ⟨by omega, by omega⟩, node_eq hk ht hv r0, Option.bind_some, gd (inR_nat (n := i) (by omega)), hostN, first_step hi]
      cases c : (nodeV t (rd h.fGraph.fNodes (i : Int)) (rd h.fValues (i : Int)) != 0) with
      | true => exact ⟨_, rfl, rfl⟩
      | false =>
        refine ih fun j hj => ?_
        rcases Nat.lt_succ_iff_lt_or_eq.1 hj with hj | rfl
        · exact hI j hj
        · simpa using c
  · refine Out.eq (loop1_out (I := fun i => ∀ j, j < i → nodeV t (rd h.fGraph.fNodes (j : Int)) (rd h.fValues (j : Int)) = 0) (P := fun i r => r = hostN t h i) h.fGraph.fNodes.length (fun hI rec => ?_) (fun i hi hI rec ih => ?_) k 0 (Nat.zero_le _) (by omega) (fun j hj => by omega))
    · rw [ref15_Valid.b0, decide_eq_false (show ¬ (h.fGraph.fNodes.length : Int) < (h.fGraph.fNodes.length : Int) by omega), cond_false, (host_edges hk ht hv hg (nodes_typed hI)).2, hostN, first_end]
      exact ⟨_, rfl, rfl⟩
    · have r0 := (hg.kind i hi).1
      rw [ref15_Valid.b0, decide_eq_true (show (i : Int) < (h.fGraph.fNodes.length : Int) by omega), cond_true, gd ⟨by omega, by omega⟩, gd ⟨by omega, by omega⟩, ref_node_eq hk ht hv r0, Option.bind_some, gd (inR_nat (n := i) (by omega)), hostN, first_step hi]
      cases c : (nodeV t (rd h.fGraph.fNodes (i : Int)) (rd h.fValues (i : Int)) != 0) with
      | true => exact ⟨_, rfl, rfl⟩
      | false =>
        refine ih fun j hj => ?_
        rcases Nat.lt_succ_iff_lt_or_eq.1 hj with hj | rfl
        · exact hI j hj
        · simpa using c
theorem host_valid_eq {k : Nat} (hk : 1000 ≤ k) {t : Types} {h : Host} (ht : FewT t) (hh : FewG h.fGraph) : Out (host_Valid k t h) (fun r => r.2 = (hostV t h).2 ∧ (validS t = 0 → r = hostV t h)) ∧ Out (ref15_Valid k t h) (fun r => r.2 = (hostV t h).2 ∧ (validS t = 0 → r = hostV t h)) := by
  obtain ⟨r, e, hr⟩ := types_Valid_out (k := k) (by omega) ht
  obtain ⟨r', e', hr'⟩ := ref04_Valid_out (k := k) (by omega) ht
  unfold host_Valid ref15_Valid hostV
  rw [e, Option.bind_some, hr, e', Option.bind_some, hr']
  cases hv : (validS t != 0) with
  | true => exact ⟨⟨_, rfl, rfl, fun h => by rw [h] at hv; cases hv⟩, ⟨_, rfl, rfl, fun h => by rw [h] at hv; cases hv⟩⟩
  | false =>
    have hv' : validS t = 0 := by simpa using hv
    rw [cond_false, cond_false, cond_false, graph_Valid_eq (by omega) hh, ref05_Valid_eq (by omega) hh, Option.bind_some, Option.bind_some]
    cases hg : (graphErr h.fGraph != 0) with
    | true => exact ⟨⟨_, rfl, rfl, fun _ => rfl⟩, ⟨_, rfl, rfl, fun _ => rfl⟩⟩
    | false =>
      have good := graphErr_good (show graphErr h.fGraph = 0 by simpa using hg)
      rw [cond_false, cond_false, cond_false]
      cases hl : ((h.fValues.length : Int) != (h.fGraph.fNodes.length : Int)) with
      | true => exact ⟨⟨_, rfl, rfl, fun _ => rfl⟩, ⟨_, rfl, rfl, fun _ => rfl⟩⟩
      | false =>
        have hl' : h.fValues.length = h.fGraph.fNodes.length := by have : (h.fValues.length : Int) = (h.fGraph.fNodes.length : Int) := by simpa using hl
                                                                   omega
        obtain ⟨p, q⟩ := host_nodes hk ht hv' good hl'
        rw [cond_false, cond_false, cond_false, p, q]
        exact ⟨⟨_, rfl, rfl, fun _ => rfl⟩, ⟨_, rfl, rfl, fun _ => rfl⟩⟩
end Go.Proofs.YthmdmchmmgmblaaGreat

namespace Go.Proofs.YthmdmchmmgmblaaGreat
open Go Go.Abs

structure FewH (h : Host) : Prop where
  graph : FewG h.fGraph
  len : h.fValues.length ≤ 45
  each : ∀ j : Nat, j < h.fValues.length → (rd h.fValues (j : Int)).length ≤ 12
theorem few15_out {k : Nat} (hk : 200 ≤ k) (h : Host) : Out (ref15_Few k h) (fun b => b = true → FewH h) := by
  unfold ref15_Few jn; dsimp only
  rw [ref05_Few_eq, Option.bind_some]
  cases c : (decide ((h.fGraph.fNodes.length : Int) ≤ 45) && decide ((h.fGraph.fEdges.length : Int) ≤ 90)) with
  | false => exact ⟨false, rfl, fun e => by cases e⟩
  | true =>
    rw [Bool.and_eq_true, decide_eq_true_eq, decide_eq_true_eq] at c
    rw [Bool.not_true, cond_false]
    by_cases d : (h.fValues.length : Int) > 45
    · rw [decide_eq_true d, cond_true]; exact ⟨false, rfl, fun e => by cases e⟩
    · rw [decide_eq_false d, cond_false]
      refine loop1_out (I := fun i => ∀ j : Nat, j < i → (rd h.fValues (j : Int)).length ≤ 12) (P := fun _ b => b = true → FewH h) h.fValues.length (fun hI rec => ?_) (fun i hi hI rec ih => ?_) k 0 (Nat.zero_le _) (by omega) (fun j hj => by omega)
      · rw [ref15_Few.b0, decide_eq_false (show ¬ (h.fValues.length : Int) < (h.fValues.length : Int) by omega), cond_false]
        exact ⟨true, rfl, fun _ => ⟨⟨by omega, by omega⟩, by omega, hI⟩⟩
      · rw [ref15_Few.b0, decide_eq_true (show (i : Int) < (h.fValues.length : Int) by omega), cond_true, gd ⟨by omega, by omega⟩, gd (inR_nat (n := i) (by omega))]
        by_cases e : ((rd h.fValues (i : Int)).length : Int) > 12
        · rw [decide_eq_true e, cond_true]; exact ⟨false, rfl, fun e => by cases e⟩
        · rw [decide_eq_false e, cond_false]
          refine ih fun j hj => ?_
          rcases Nat.lt_succ_iff_lt_or_eq.1 hj with hj | rfl
          · exact hI j hj
          · omega
theorem copied15 {k : Nat} (hk : 200 ≤ k) {h : Host} (hh : FewH h) : ref15_Copied k h = some h := by
  have h1 := hh.graph.nodes; have h2 := hh.graph.edges; have h3 := hh.len
  unfold ref15_Copied ref05_Copied
  rw [gd (show h.fGraph.fNodes.length ≤ lim by unfold lim; omega), gd (show h.fGraph.fEdges.length ≤ lim by unfold lim; omega), Option.bind_some]
  refine Out.eq (loop2_out (S := List (List Int)) (P := fun _ _ r => r = h) (I := fun s i => s = h.fValues.take i) h.fValues.length (fun s hs rec => ?_) (fun s i hi hs rec ih => ?_) k 0 [] (Nat.zero_le _) (by omega) rfl)
  · rw [ref15_Copied.b0, decide_eq_false (show ¬ (h.fValues.length : Int) < (h.fValues.length : Int) by omega), cond_false, hs, List.take_length]; exact ⟨_, rfl, rfl⟩
  · have he := hh.each i hi
    have hsl : s.length ≤ 45 := by rw [hs, List.length_take]; omega
    rw [ref15_Copied.b0, decide_eq_true (show (i : Int) < (h.fValues.length : Int) by omega), cond_true, gd ⟨by omega, by omega⟩, gd (show (rd h.fValues (i : Int)).length ≤ lim by unfold lim; omega), gd (show s.length + 1 ≤ lim by unfold lim; omega), gd (inR_nat (n := i) (by omega))]
    exact ih _ (by rw [hs, take_rdA hi])
end Go.Proofs.YthmdmchmmgmblaaGreat

namespace Go.Proofs.YthmdmchmmgmblaaGreat
open Go Go.Abs

theorem firstF_ok {e : Nat → Int} {z : Int × Int} : ∀ (d i : Nat), (firstF e z i d).2 = 0 → ∀ j, i ≤ j → j < i + d → e j = 0
  | 0, i, _ => fun j h1 h2 => by omega
  | d + 1, i, h => fun j h1 h2 => by
    unfold firstF at h
    cases c : (e i != 0) with
    | true =>
      rw [c, cond_true] at h
      have h' : e i = 0 := h
      rw [h'] at c; cases c
    | false =>
      rw [c, cond_false] at h
      rcases Nat.eq_or_lt_of_le h1 with q | q
      · rw [← q]; simpa using c
      · exact firstF_ok d (i + 1) h j q (by omega)
structure HostOk (t : Types) (h : Host) : Prop where
  val : validS t = 0
  graph : GoodG h.fGraph
  len : h.fValues.length = h.fGraph.fNodes.length
  node : ∀ j, j < h.fGraph.fNodes.length → nodeV t (rd h.fGraph.fNodes (j : Int)) (rd h.fValues (j : Int)) = 0
theorem host_ok {t : Types} {h : Host} (e : (hostV t h).2 = 0) : HostOk t h := by
  unfold hostV at e
  cases h0 : (validS t != 0) with
  | true => rw [h0, cond_true] at e; have e' : validS t = 0 := e; rw [e'] at h0; cases h0
  | false =>
    cases h1 : (graphErr h.fGraph != 0) with
    | true => rw [h0, h1, cond_false, cond_true] at e; have e' : graphErr h.fGraph = 0 := e; rw [e'] at h1; cases h1
    | false =>
      cases h2 : ((h.fValues.length : Int) != (h.fGraph.fNodes.length : Int)) with
      | true => rw [h0, h1, h2] at e; cases e
      | false =>
        rw [h0, h1, h2, cond_false, cond_false, cond_false] at e
        have hl : (h.fValues.length : Int) = (h.fGraph.fNodes.length : Int) := by simpa using h2
        exact ⟨by simpa using h0, graphErr_good (by simpa using h1), by omega, fun j hj => firstF_ok _ _ e j (Nat.zero_le _) (by omega)⟩
theorem node_val {t : Types} {kind : Int} {vs : List Int} (h : nodeV t kind vs = 0) : kind < (t.fNodes.length : Int) ∧ vs.length = (attrsS t.fNodes t.fNodes.length kind).length ∧ ∀ j, j < vs.length → outB (attrsS t.fNodes t.fNodes.length kind) vs j = false := by
  unfold nodeV at h
  by_cases c : kind ≥ (t.fNodes.length : Int)
  · rw [decide_eq_true c] at h; cases h
  · rw [decide_eq_false c, cond_false] at h
    cases h1 : (rd t.fNodes kind).fAbstract with
    | true => rw [h1] at h; cases h
    | false =>
      cases h2 : ((vs.length : Int) != ((attrsS t.fNodes t.fNodes.length kind).length : Int)) with
      | true => rw [h1, h2] at h; cases h
      | false =>
        have hl : (vs.length : Int) = ((attrsS t.fNodes t.fNodes.length kind).length : Int) := by simpa using h2
        cases h3 : anyN (outB (attrsS t.fNodes t.fNodes.length kind) vs) 0 (attrsS t.fNodes t.fNodes.length kind).length with
        | true => rw [h1, h2, h3] at h; cases h
        | false => exact ⟨by omega, by omega, fun j hj => anyN_false h3 j (Nat.zero_le _) (by omega)⟩
end Go.Proofs.YthmdmchmmgmblaaGreat

namespace Go.Proofs.YthmdmchmmgmblaaGreat
open Go Go.Abs

theorem list_rd {α : Type} [Inhabited α] {l m : List α} (hl : l.length = m.length) (h : ∀ j : Nat, j < l.length → rd l (j : Int) = rd m (j : Int)) : l = m := by
  apply List.ext_getElem hl
  intro i h1 h2
  have := h i h1
  simpa [rd, List.getD, List.getElem?_eq_getElem h1, List.getElem?_eq_getElem h2] using this
/-- A loop that compares two lists. -/
theorem eq_loop {α : Type} [Inhabited α] [DecidableEq α] {b : (Int → Option Bool) → Int → Option Bool} {l m : List α} (hl : l.length = m.length) (hend : ∀ rec, b rec (l.length : Int) = some true)
    (hstep : ∀ i, i < l.length → ∀ rec : Int → Option Bool, b rec (i : Int) = if rd l (i : Int) = rd m (i : Int) then rec ((i : Int) + 1) else some false) {k : Nat} (hk : l.length < k) : loop1 k b 0 = some (decide (l = m)) := by
  have key : loop1 k b ((0 : Nat) : Int) = some (!anyN (fun j => !decide (rd l (j : Int) = rd m (j : Int))) 0 l.length) := by
    refine loop1_eq (fun i => !anyN (fun j => !decide (rd l (j : Int) = rd m (j : Int))) i l.length) l.length (fun rec => ?_) (fun i hi rec ih => ?_) (Nat.zero_le _) (by omega)
    · rw [hend, anyN_end]; rfl
    · rw [hstep i hi, ih, anyN_step hi]
      by_cases e : rd l (i : Int) = rd m (i : Int)
      · rw [if_pos e, decide_eq_true e, Bool.not_true, Bool.false_or]
      · rw [if_neg e, decide_eq_false e]; rfl
  have key' : loop1 k b 0 = _ := key
  rw [key']
  congr 1
  rw [Bool.eq_iff_iff, Bool.not_eq_true', decide_eq_true_eq]
  constructor
  · intro h
    exact list_rd hl fun j hj => by have := anyN_false h j (Nat.zero_le _) hj; simpa using this
  · rintro rfl
    exact anyN_none fun j _ _ => by simp
theorem wrap_zero {a b : Int} (ha : inR a) (hb : inR b) : IntKind.i64.wrap (a - b) = 0 ↔ a = b := by
  unfold inR at ha hb
  simp only [IntKind.wrap, IntKind.bits, IntKind.signed, Bool.true_and, decide_eq_true_eq]
  constructor
  · intro h
    split at h <;> omega
  · rintro rfl
    simp
theorem ne_len {α : Type} {a b : List α} (h : ((a.length : Int) != (b.length : Int)) = true) : a ≠ b := by
  rintro rfl; simp at h
theorem len_eq {α : Type} {a b : List α} (h : ((a.length : Int) != (b.length : Int)) = false) : a.length = b.length := by
  simp at h; omega
theorem edge_beq (x y : Edge) : ([x.fType, x.fFrom, x.fTo] == [y.fType, y.fFrom, y.fTo]) = decide (x = y) := by
  cases x; cases y
  rw [Bool.eq_iff_iff]
  simp
theorem host_eq (a b : Host) : (decide (a.fGraph.fNodes = b.fGraph.fNodes) && (decide (a.fGraph.fEdges = b.fGraph.fEdges) && decide (a.fValues = b.fValues))) = decide (a = b) := by
  obtain ⟨⟨n, e⟩, v⟩ := a
  obtain ⟨⟨n', e'⟩, v'⟩ := b
  rw [Bool.eq_iff_iff]
  simp [and_assoc]
/-! ### The reference -/
theorem compare_out {k : Nat} {a b : List Int} (hk : a.length < k) (ha : a.length ≤ 1000000) (hb : b.length ≤ 1000000) (ra : ∀ x ∈ a, inR x) (rb : ∀ x ∈ b, inR x) : Out (ref15_compare k a b) (fun r => r = 0 ↔ a = b) := by
  have := loop1_out (b := ref15_compare.b0 a b) (I := fun i => a.take i = b.take i ∧ i ≤ b.length) (P := fun _ r => r = 0 ↔ a = b) a.length (fun ⟨hI, hI2⟩ rec => ?_) (fun i hi ⟨hI, hI2⟩ rec ih => ?_) k 0 (Nat.zero_le _) (by omega) ⟨by simp, Nat.zero_le _⟩
  · exact this
  · rw [ref15_compare.b0]; unfold jn; dsimp only
    rw [decide_eq_false (show ¬ (a.length : Int) < (a.length : Int) by omega), cond_false, cond_false]
    refine ⟨_, rfl, ?_⟩
    show (_ : Int) = 0 ↔ a = b
    rw [wrap_zero (by unfold inR; omega) (by unfold inR; omega)]
    rw [List.take_length] at hI
    constructor
    · intro e
      rw [hI, List.take_of_length_le (by omega)]
    · rintro rfl; rfl
  · rw [ref15_compare.b0]; unfold jn; dsimp only
    rw [decide_eq_true (show (i : Int) < (a.length : Int) by omega), cond_true]
    by_cases c : i < b.length
    · rw [decide_eq_true (show (i : Int) < (b.length : Int) by omega), cond_true, gd ⟨by omega, by omega⟩, gd ⟨by omega, by omega⟩, gd (inR_nat (n := i) (by omega))]
      by_cases e : rd a (i : Int) = rd b (i : Int)
      · rw [e, bne_self_eq_false, cond_false]
        exact ih ⟨by rw [take_rdA hi, take_rdA c, hI, e], by omega⟩
      · rw [show (rd a (i : Int) != rd b (i : Int)) = true by simp [e], cond_true, gd ⟨by omega, by omega⟩, gd ⟨by omega, by omega⟩]
        refine ⟨_, rfl, ?_⟩
        show (_ : Int) = 0 ↔ a = b
        rw [wrap_zero (ra _ (rd_mem (by omega) (by omega))) (rb _ (rd_mem (by omega) (by omega)))]
        exact ⟨fun q => absurd q e, fun q => by rw [q]⟩
    · rw [decide_eq_false (show ¬ (i : Int) < (b.length : Int) by omega), cond_false]
      refine ⟨_, rfl, ?_⟩
      show (_ : Int) = 0 ↔ a = b
      rw [wrap_zero (by unfold inR; omega) (by unfold inR; omega)]
      constructor
      · intro q; omega
      · rintro rfl; rfl
theorem SameInts_dec {k : Nat} (a b : List Int) (hk : a.length < k) (ha : a.length ≤ 1000000) : ref05_SameInts k a b = some (decide (a = b)) := by
  unfold ref05_SameInts
  cases c : ((a.length : Int) != (b.length : Int)) with
  | true => rw [decide_eq_false (ne_len c)]; rfl
  | false =>
    have hl := len_eq c
    rw [cond_false]
    refine eq_loop hl (fun rec => ?_) (fun i hi rec => ?_) hk
    · rw [ref05_SameInts.b0, decide_eq_false (show ¬ (a.length : Int) < (a.length : Int) by omega), cond_false]
    · rw [ref05_SameInts.b0, decide_eq_true (show (i : Int) < (a.length : Int) by omega), cond_true, gd ⟨by omega, by omega⟩, gd ⟨by omega, by omega⟩, gd (inR_nat (n := i) (by omega))]
      by_cases e : rd a (i : Int) = rd b (i : Int)
      · rw [e, bne_self_eq_false, if_pos rfl]; rfl
      · rw [if_neg e, show (rd a (i : Int) != rd b (i : Int)) = true by simp [e]]; rfl
theorem graph_eq (a b : Graph) : (decide (a.fNodes = b.fNodes) && decide (a.fEdges = b.fEdges)) = decide (a = b) := by
  obtain ⟨n, e⟩ := a
  obtain ⟨n', e'⟩ := b
  rw [Bool.eq_iff_iff]
  simp
theorem ref05_Same_eq {k : Nat} (hk : 200 ≤ k) {a : Graph} (ha : FewG a) (b : Graph) : ref05_Same k a b = some (decide (a = b)) := by
  have h1 := ha.nodes; have h2 := ha.edges
  unfold ref05_Same jn; dsimp only
  rw [SameInts_dec _ _ (by omega) (by omega), Option.bind_some, ← graph_eq]
  cases decide (a.fNodes = b.fNodes) with
  | false => rfl
  | true =>
    rw [Bool.not_true, cond_false]
    cases c : ((a.fEdges.length : Int) != (b.fEdges.length : Int)) with
    | true => rw [decide_eq_false (ne_len c)]; rfl
    | false =>
      have hl := len_eq c
      rw [cond_false, Bool.true_and]
      refine eq_loop hl (fun rec => ?_) (fun i hi rec => ?_) (by omega)
      · rw [ref05_Same.b0, decide_eq_false (show ¬ (a.fEdges.length : Int) < (a.fEdges.length : Int) by omega), cond_false]
      · rw [ref05_Same.b0, decide_eq_true (show (i : Int) < (a.fEdges.length : Int) by omega), cond_true, gd ⟨by omega, by omega⟩, gd ⟨by omega, by omega⟩, gd (inR_nat (n := i) (by omega)), edge_beq]
        by_cases e : rd a.fEdges (i : Int) = rd b.fEdges (i : Int)
        · rw [decide_eq_true e, if_pos e]; rfl
        · rw [decide_eq_false e, if_neg e]; rfl
/-- All values fit 64 bits. -/
def RanH (h : Host) : Prop := ∀ l ∈ h.fValues, ∀ x ∈ l, inR x
theorem ref15_Same_eq {k : Nat} (hk : 200 ≤ k) {a b : Host} (ha : FewH a) (hb : FewH b) (ra : RanH a) (rb : RanH b) : ref15_Same k a b = some (decide (a = b)) := by
  have h3 := ha.len
  unfold ref15_Same jn; dsimp only
  rw [ref05_Same_eq hk ha.graph, Option.bind_some, ← host_eq, ← Bool.and_assoc, graph_eq]
  cases decide (a.fGraph = b.fGraph) with
  | false => rfl
  | true =>
    rw [Bool.not_true, cond_false]
    cases c : ((a.fValues.length : Int) != (b.fValues.length : Int)) with
    | true => rw [decide_eq_false (ne_len c)]; rfl
    | false =>
      have hl := len_eq c
      rw [cond_false, Bool.true_and]
      refine eq_loop hl (fun rec => ?_) (fun i hi rec => ?_) (by omega)
      · rw [ref15_Same.b0, decide_eq_false (show ¬ (a.fValues.length : Int) < (a.fValues.length : Int) by omega), cond_false]
      · have e1 := ha.each i hi; have e2 := hb.each i (by omega)
        obtain ⟨r, er, hr⟩ := compare_out (k := k) (a := rd a.fValues (i : Int)) (b := rd b.fValues (i : Int)) (by omega) (by omega) (by omega) (ra _ (rd_mem (by omega) (by omega))) (rb _ (rd_mem (by omega) (by omega)))
        rw [ref15_Same.b0, decide_eq_true (show (i : Int) < (a.fValues.length : Int) by omega), cond_true, gd ⟨by omega, by omega⟩, gd ⟨by omega, by omega⟩, gd (inR_nat (n := i) (by omega)), er, Option.bind_some]
        by_cases e : rd a.fValues (i : Int) = rd b.fValues (i : Int)
        · rw [if_pos e, hr.2 e, bne_self_eq_false]; rfl
        · rw [if_neg e, show (r != 0) = true by simp; exact fun q => e (hr.1 q)]; rfl
end Go.Proofs.YthmdmchmmgmblaaGreat

namespace Go.Proofs.YthmdmchmmgmblaaGreat
open Go Go.Abs

/-- A loop that collects. -/
theorem collect_from {α R : Type} {b : (List α → Int → Option R) → List α → Int → Option R} (f : Nat → List α) (n m L : Nat) (fin : List α → Option R) (hm : ∀ i, i < n → (f i).length ≤ m)
    (hend : ∀ s rec, s.length ≤ L + m * n → b rec s (n : Int) = fin s)
    (hstep : ∀ i, i < n → ∀ (s : List α) (rec : List α → Int → Option R), s.length ≤ L + m * i → b rec s (i : Int) = rec (s ++ f i) ((i : Int) + 1)) :
    ∀ (d k i : Nat) (s : List α), i + d = n → d < k → s.length ≤ L + m * i → loop2 k b s (i : Int) = fin (s ++ (List.range' i d).flatMap f)
  | d, 0, _, _, _, hk, _ => by omega
  | 0, k + 1, i, s, hi, _, hs => by
    obtain rfl : i = n := by omega
    unfold loop2
    rw [hend s _ hs]; simp
  | d + 1, k + 1, i, s, hi, hk, hs => by
    unfold loop2
    rw [hstep i (by omega) s _ hs]
    have h1 := hm i (by omega)
    have := collect_from f n m L fin hm hend hstep d k (i + 1) (s ++ f i) (by omega) (by omega) (by rw [List.length_append, Nat.mul_add]; omega)
    rw [List.append_assoc] at this
    rw [List.range'_succ, List.flatMap_cons]
    exact_mod_cast this
theorem collect_loop {α R : Type} {b : (List α → Int → Option R) → List α → Int → Option R} (f : Nat → List α) (n m : Nat) (fin : List α → Option R) (hm : ∀ i, i < n → (f i).length ≤ m) (s0 : List α)
    (hend : ∀ s rec, s.length ≤ s0.length + m * n → b rec s (n : Int) = fin s)
    (hstep : ∀ i, i < n → ∀ (s : List α) (rec : List α → Int → Option R), s.length ≤ s0.length + m * i → b rec s (i : Int) = rec (s ++ f i) ((i : Int) + 1)) {k : Nat} (hk : n < k) : loop2 k b s0 0 = fin (s0 ++ (List.range n).flatMap f) := by
  have := collect_from f n m s0.length fin hm hend hstep n k 0 s0 (by omega) hk (by omega)
  rw [List.range_eq_range']
  exact this
theorem host_valid2 {k : Nat} (hk : 1000 ≤ k) {t : Types} {h : Host} (ht : FewT t) (hh : FewG h.fGraph) : host_Valid k t h = some (hostV t h) ∧ ref15_Valid k t h = some (hostV t h) := by
  obtain ⟨⟨r, e, h1, h2⟩, ⟨r', e', h1', h2'⟩⟩ := host_valid_eq hk ht hh
  by_cases hv : validS t = 0
  · rw [e, e', h2 hv, h2' hv]; exact ⟨rfl, rfl⟩
  · obtain ⟨q, eq, hq⟩ := types_Valid_out (k := k) (by omega) ht
    obtain ⟨q', eq', hq'⟩ := ref04_Valid_out (k := k) (by omega) ht
    have hb : (validS t != 0) = true := by simpa using hv
    unfold host_Valid ref15_Valid hostV
    rw [eq, eq', Option.bind_some, Option.bind_some, hq, hq', hb]
    exact ⟨rfl, rfl⟩
/-! ### Excesses -/
structure Able (t : Types) (h : Host) : Prop where
  ty : FewT t
  ho : FewH h
  ok : HostOk t h
theorem Able.kind {t : Types} {h : Host} (a : Able t h) {i : Nat} (hi : i < h.fGraph.fNodes.length) : 0 ≤ rd h.fGraph.fNodes (i : Int) ∧ rd h.fGraph.fNodes (i : Int) < (t.fNodes.length : Int) :=
  ⟨(a.ok.graph.kind i hi).1, (node_val (a.ok.node i hi)).1⟩
theorem small_out {k : Nat} (hk : 200 ≤ k) {t : Types} (h : Host) (hA : ∀ n ∈ t.fNodes, n.fAttrs.length ≤ 140737488351232) : Out (law15_small k t [h]) (fun b => b = true → FewT t ∧ FewH h) := by
  obtain ⟨b, e, hb⟩ := ref04_Few_out hk hA
  obtain ⟨c, e', hc⟩ := few15_out hk h
  unfold law15_small jn; dsimp only
  rw [e, Option.bind_some]
  cases b with
  | false => exact ⟨_, rfl, fun h => by cases h⟩
  | true =>
    have hx : slices_ContainsFunc_Host k [h] (fun x => law15_small_1 k x) = some (anyN (fun _ => !c) 0 [h].length) := ix_contains [h] _ (fun _ => !c) k (by simp; omega) (by simp) (fun j hj => by
      have : j = 0 := by simp at hj; exact hj
      subst this
      show law15_small_1 k h = _
      unfold law15_small_1
      rw [e', Option.bind_some])
    rw [cond_true, hx, Option.bind_some]
    refine ⟨_, rfl, fun q => ⟨hb rfl, hc ?_⟩⟩
    cases c with
    | true => rfl
    | false => simp [anyN, anyF] at q
end Go.Proofs.YthmdmchmmgmblaaGreat

namespace Go.Proofs.YthmdmchmmgmblaaGreat
open Go Go.Abs

def zeroH : Host := Host.mk (Graph.mk [] []) []
theorem few_zero : FewH zeroH := ⟨⟨by simp [zeroH], by simp [zeroH]⟩, by simp [zeroH], fun j hj => by simp [zeroH] at hj⟩
theorem ran_zero : RanH zeroH := fun l hl => by simp [zeroH] at hl
end Go.Proofs.YthmdmchmmgmblaaGreat

namespace Go.Proofs.YthmdmchmmgmblaaGreat
open Go Go.Abs

theorem mid_eq {s : Int} (h0 : 0 ≤ s) (h1 : s ≤ 2000000) : IntKind.i64.wrap (shR .u64 (IntKind.u64.wrap s) 1) = s / 2 := by
  have e1 : IntKind.u64.wrap s = s := by
    simp only [IntKind.wrap, IntKind.bits, IntKind.signed, Bool.false_and]
    simp
    omega
  rw [e1]
  unfold shR
  rw [show min (1 : Int).toNat IntKind.u64.bits = 1 from rfl, Int.fdiv_eq_ediv_of_nonneg _ (by decide)]
  rw [wrap_inR (by unfold inR; omega)]
  rfl
/-! ### Ascending lists -/
def asc1 (l : List Int) (n : Int) (i : Nat) : Int :=
  bif decide (rd l (i : Int) < 0) || decide (rd l (i : Int) ≥ n) then 6 else bif decide ((i : Int) > 0) && decide (rd l (i : Int) ≤ rd l ((i : Int) - 1)) then 12 else 0
theorem list_eq {k : Nat} {l : List Int} {n : Int} (hk : l.length < k) (hl : l.length ≤ 1000) : subgraph_list k l n = some (scan (asc1 l n) 0 l.length) := by
  refine loop1_eq (fun i => scan (asc1 l n) i l.length) l.length (fun rec => ?_) (fun i hi rec ih => ?_) (Nat.zero_le _) (by omega)
  · rw [subgraph_list.b0, decide_eq_false (show ¬ (l.length : Int) < (l.length : Int) by omega), cond_false, scan_end]
  · rw [scan_step hi, subgraph_list.b0]; unfold jn; dsimp only
    rw [decide_eq_true (show (i : Int) < (l.length : Int) by omega), cond_true, gd ⟨by omega, by omega⟩, gd (inR_nat (n := i) (by omega)), ih]
    unfold asc1
    cases decide (rd l (i : Int) < 0) with
    | true => rfl
    | false =>
      cases decide (rd l (i : Int) ≥ n) with
      | true => rfl
      | false =>
        rw [cond_false, cond_false, Bool.or_self, cond_false]
        by_cases h : (i : Int) > 0
        · rw [decide_eq_true h, cond_true, gd (show inR ((i : Int) - 1) by unfold inR; omega), gd (show 0 ≤ (i : Int) - 1 ∧ (i : Int) - 1 < (l.length : Int) by omega), Bool.true_and]
          cases decide (rd l (i : Int) ≤ rd l ((i : Int) - 1)) <;> rfl
        · rw [decide_eq_false h, cond_false, Bool.false_and]; rfl
theorem ref_asc_eq {k : Nat} {l : List Int} {n : Int} (hk : l.length < k) (hl : l.length ≤ 1000) : ref07_ascending k l n = some (scan (asc1 l n) 0 l.length) := by
  refine loop1_eq (fun i => scan (asc1 l n) i l.length) l.length (fun rec => ?_) (fun i hi rec ih => ?_) (Nat.zero_le _) (by omega)
  · rw [ref07_ascending.b0, decide_eq_false (show ¬ (l.length : Int) < (l.length : Int) by omega), cond_false, scan_end]
  · rw [scan_step hi, ref07_ascending.b0]; unfold jn; dsimp only
    rw [decide_eq_true (show (i : Int) < (l.length : Int) by omega), cond_true, gd ⟨by omega, by omega⟩, gd (inR_nat (n := i) (by omega)), ih]
    unfold asc1
    cases decide (rd l (i : Int) < 0) with
    | true => rfl
    | false =>
      rw [cond_false, gd ⟨by omega, by omega⟩]
      cases decide (rd l (i : Int) ≥ n) with
      | true => rfl
      | false =>
        rw [cond_false, Bool.or_self, cond_false]
        by_cases h : (i : Int) > 0
        · rw [decide_eq_true h, cond_true, gd ⟨by omega, by omega⟩, gd (show inR ((i : Int) - 1) by unfold inR; omega), gd (show 0 ≤ (i : Int) - 1 ∧ (i : Int) - 1 < (l.length : Int) by omega), Bool.true_and]
          cases decide (rd l (i : Int) ≤ rd l ((i : Int) - 1)) <;> rfl
        · rw [decide_eq_false h, cond_false, Bool.false_and]; rfl
structure AscL (l : List Int) (n : Int) : Prop where
  low : ∀ i, i < l.length → 0 ≤ rd l (i : Int)
  high : ∀ i, i < l.length → rd l (i : Int) < n
  step : ∀ i, i + 1 < l.length → rd l (i : Int) < rd l ((i + 1 : Nat) : Int)
theorem asc_of {l : List Int} {n : Int} (h : scan (asc1 l n) 0 l.length = 0) : AscL l n := by
  have hz : ∀ i, i < l.length → asc1 l n i = 0 := fun i hi => scan_zero h i (Nat.zero_le _) hi
  have hc : ∀ i, i < l.length → (¬ rd l (i : Int) < 0 ∧ ¬ rd l (i : Int) ≥ n) ∧ ¬ ((i : Int) > 0 ∧ rd l (i : Int) ≤ rd l ((i : Int) - 1)) := fun i hi => by
    have := hz i hi
    unfold asc1 at this
    cases c : (decide (rd l (i : Int) < 0) || decide (rd l (i : Int) ≥ n)) with
    | true => rw [c] at this; cases this
    | false =>
      rw [c, cond_false] at this
      cases d : (decide ((i : Int) > 0) && decide (rd l (i : Int) ≤ rd l ((i : Int) - 1))) with
      | true => rw [d] at this; cases this
      | false =>
        simp only [Bool.or_eq_false_iff, decide_eq_false_iff_not, Bool.and_eq_false_iff] at c d
        exact ⟨c, fun q => d.elim (fun f => f q.1) fun f => f q.2⟩
  refine ⟨fun i hi => ?_, fun i hi => ?_, fun i hi => ?_⟩
  · have := (hc i hi).1.1; omega
  · have := (hc i hi).1.2; omega
  · have := (hc (i + 1) hi).2
    have e : (((i + 1 : Nat) : Int) - 1) = (i : Int) := by omega
    rw [e] at this
    apply Classical.byContradiction
    intro q
    exact this ⟨by omega, by omega⟩
theorem AscL.lt {l : List Int} {n : Int} (h : AscL l n) : ∀ {j i : Nat}, i < j → j < l.length → rd l (i : Int) < rd l (j : Int)
  | 0, i, h1, _ => by omega
  | j + 1, i, h1, h2 => by
    have s := h.step j h2
    rcases Nat.lt_succ_iff_lt_or_eq.1 h1 with q | rfl
    · have := AscL.lt h q (by omega); omega
    · exact s
theorem AscL.ge {l : List Int} {n : Int} (h : AscL l n) : ∀ {i : Nat}, i < l.length → (i : Int) ≤ rd l (i : Int)
  | 0, hi => by have := h.low 0 hi; simpa using this
  | i + 1, hi => by
    have := AscL.ge h (i := i) (by omega)
    have := h.step i hi
    omega
theorem AscL.len {l : List Int} {n : Nat} (h : AscL l (n : Int)) : l.length ≤ n := by
  rcases Nat.eq_zero_or_pos l.length with e | e
  · omega
  · have h1 := h.ge (i := l.length - 1) (by omega)
    have h2 := h.high (l.length - 1) (by omega)
    omega
structure Bin (l : List Int) (x : Int) (r : Int × Bool) : Prop where
  low : 0 ≤ r.1
  high : r.1 ≤ (l.length : Int)
  lt : ∀ j : Nat, (j : Int) < r.1 → rd l (j : Int) < x
  ge : ∀ j : Nat, r.1 ≤ (j : Int) → j < l.length → x ≤ rd l (j : Int)
  found : r.2 = (decide (r.1 < (l.length : Int)) && (rd l r.1 == x))
theorem bin_from {K : Nat} {l : List Int} {x n : Int} (h : AscL l n) (hl : l.length ≤ 1000) : ∀ (d k : Nat) (i j : Int), (j - i).toNat ≤ d → d < k → 0 ≤ i → i ≤ j → j ≤ (l.length : Int) → (∀ q : Nat, (q : Int) < i → rd l (q : Int) < x) → (∀ q : Nat, j ≤ (q : Int) → q < l.length → x ≤ rd l (q : Int)) →
    Out (loop2 k (slices_BinarySearch_int.b0 K l x) i j) (Bin l x)
  | _, 0, _, _, _, hk, _, _, _, _, _ => by omega
  | d, k + 1, i, j, hd, hk, h0, hij, hj, hlt, hge => by
    unfold loop2
    rw [slices_BinarySearch_int.b0]
    by_cases c : i < j
    · have hm := mid_eq (s := i + j) (by omega) (by omega)
      have m1 : 0 ≤ (i + j) / 2 := by omega
      have m2 : (i + j) / 2 < (l.length : Int) := by omega
      rw [decide_eq_true c, cond_true, gd (show inR (i + j) by unfold inR; omega), hm, gd ⟨m1, m2⟩, gd (show inR ((i + j) / 2 + 1) by unfold inR; omega), cmp_Less_int]
      unfold cmp_isNaN_int jn; dsimp only
      rw [Option.bind_some, bne_self_eq_false, cond_false, Option.bind_some]
      obtain ⟨d, rfl⟩ : ∃ e, d = e + 1 := ⟨d - 1, by omega⟩
      generalize hM : (i + j) / 2 = m at *
      by_cases c2 : rd l m < x
      · rw [decide_eq_true c2, cond_true]
        refine bin_from h hl d k (m + 1) j (by omega) (by omega) (by omega) (by omega) hj (fun q hq => ?_) hge
        rcases Nat.lt_or_ge q m.toNat with q1 | q1
        · have := h.lt (i := q) (j := m.toNat) q1 (by omega)
          rw [Int.toNat_of_nonneg m1] at this; omega
        · have : (q : Int) = m := by omega
          rw [this]; exact c2
      · rw [decide_eq_false c2, cond_false]
        refine bin_from h hl d k i m (by omega) (by omega) h0 (by omega) (by omega) hlt (fun q hq hq2 => ?_)
        rcases Nat.lt_or_ge m.toNat q with q1 | q1
        · have := h.lt (i := m.toNat) (j := q) q1 hq2
          rw [Int.toNat_of_nonneg m1] at this; omega
        · have : (q : Int) = m := by omega
          rw [this]; omega
    · have e : i = j := by omega
      subst e
      rw [decide_eq_false c, cond_false]
      unfold jn slices_isNaN_int; dsimp only
      by_cases c2 : i < (l.length : Int)
      · rw [decide_eq_true c2, cond_true, gd ⟨h0, c2⟩, gd ⟨h0, c2⟩, Option.bind_some, bne_self_eq_false, cond_false]
        cases c3 : (rd l i == x) with
        | true => exact ⟨_, rfl, ⟨h0, hj, hlt, hge, by rw [decide_eq_true c2, c3]; rfl⟩⟩
        | false => exact ⟨_, rfl, ⟨h0, hj, hlt, hge, by rw [decide_eq_true c2, c3]; rfl⟩⟩
      · rw [decide_eq_false c2, cond_false]
        exact ⟨_, rfl, ⟨h0, hj, hlt, hge, by rw [decide_eq_false c2]; rfl⟩⟩
theorem bin_out {k : Nat} {l : List Int} {x n : Int} (h : AscL l n) (hl : l.length ≤ 1000) (hk : l.length < k) : Out (slices_BinarySearch_int k l x) (Bin l x) :=
  bin_from h hl l.length k 0 (l.length : Int) (by omega) hk (by omega) (by omega) (by omega) (fun q hq => by omega) (fun q hq hq2 => by omega)
theorem Bin.at {l : List Int} {x n : Int} {r : Int × Bool} (h0 : AscL l n) (h : Bin l x r) {y : Int} (y0 : 0 ≤ y) (y1 : y < (l.length : Int)) (e : rd l y = x) : r.1 = y := by
  have hlow := h.low
  have a1 := h.lt y.toNat
  rw [Int.toNat_of_nonneg y0, e] at a1
  rcases Int.lt_or_le r.1 y with q | q
  · have b1 := h.ge r.1.toNat (by omega) (by omega)
    have b2 := h0.lt (i := r.1.toNat) (j := y.toNat) (by omega) (by omega)
    rw [Int.toNat_of_nonneg hlow] at b1 b2
    rw [Int.toNat_of_nonneg y0] at b2
    omega
  · rcases Int.lt_or_eq_of_le q with q2 | q2
    · have := a1 q2; omega
    · exact q2.symm
theorem Bin.mem {l : List Int} {x n : Int} {r : Int × Bool} (h0 : AscL l n) (h : Bin l x r) : r.2 = decide (x ∈ l) := by
  rw [h.found, Bool.eq_iff_iff, Bool.and_eq_true, decide_eq_true_eq, beq_iff_eq, decide_eq_true_eq]
  constructor
  · rintro ⟨h1, h2⟩
    rw [← h2]; exact rd_mem h.low h1
  · intro hm
    obtain ⟨y, y0, y1, e⟩ := mem_rd.1 hm
    rw [h.at h0 y0 y1 e.symm]
    exact ⟨y1, e.symm⟩
/-! ### The error of a part -/
theorem has_eq {k : Nat} {l : List Int} {n : Int} (h : AscL l n) (hl : l.length ≤ 1000) (hk : l.length < k) (x : Int) : subgraph_has k l x = some (decide (x ∈ l)) := by
  obtain ⟨r, e, hr⟩ := bin_out (x := x) h hl hk
  unfold subgraph_has
  rw [e, Option.bind_some, hr.mem h]
theorem ref_has_eq {k : Nat} {l : List Int} (hl : l.length ≤ 1000) (hk : l.length < k) (x : Int) : ref07_has k l x = some (decide (x ∈ l)) := by
  have key : ref07_has k l x = some (anyN (fun j => x == rd l (j : Int)) 0 l.length) := by
    refine loop1_eq (fun i => anyN (fun j => x == rd l (j : Int)) i l.length) l.length (fun rec => ?_) (fun i hi rec ih => ?_) (Nat.zero_le _) (by omega)
    · rw [ref07_has.b0, decide_eq_false (show ¬ (l.length : Int) < (l.length : Int) by omega), cond_false, anyN_end]
    · rw [anyN_step hi, ref07_has.b0, decide_eq_true (show (i : Int) < (l.length : Int) by omega), cond_true, gd ⟨by omega, by omega⟩, gd (inR_nat (n := i) (by omega)), ih, show (rd l (i : Int) == x) = (x == rd l (i : Int)) by rw [Bool.eq_iff_iff, beq_iff_eq, beq_iff_eq]; exact eq_comm]
      cases (x == rd l (i : Int)) <;> rfl
  rw [key, anyN_mem]
def dangE (g : Graph) (p : Part) (i : Nat) : Int :=
  bif decide ((rd g.fEdges (rd p.fEdges (i : Int))).fFrom ∈ p.fNodes) && decide ((rd g.fEdges (rd p.fEdges (i : Int))).fTo ∈ p.fNodes) then 0 else 14
def partS (g : Graph) (p : Part) : Int :=
  bif scan (asc1 p.fNodes (g.fNodes.length : Int)) 0 p.fNodes.length != 0 then scan (asc1 p.fNodes (g.fNodes.length : Int)) 0 p.fNodes.length else
  bif scan (asc1 p.fEdges (g.fEdges.length : Int)) 0 p.fEdges.length != 0 then scan (asc1 p.fEdges (g.fEdges.length : Int)) 0 p.fEdges.length else scan (dangE g p) 0 p.fEdges.length
theorem part_two {k : Nat} (hk : 1000 ≤ k) (g : Graph) {p : Part} (h1 : p.fNodes.length ≤ 150) (h2 : p.fEdges.length ≤ 150) : subgraph_part k g p = some (partS g p) ∧ ref07_Right k g p = some (partS g p) := by
  unfold subgraph_part ref07_Right partS
  rw [list_eq (by omega) (by omega), ref_asc_eq (by omega) (by omega), Option.bind_some, Option.bind_some]
  cases c : (scan (asc1 p.fNodes (g.fNodes.length : Int)) 0 p.fNodes.length != 0) with
  | true => exact ⟨rfl, rfl⟩
  | false =>
    rw [cond_false, cond_false, cond_false, list_eq (by omega) (by omega), ref_asc_eq (by omega) (by omega), Option.bind_some, Option.bind_some]
    cases d : (scan (asc1 p.fEdges (g.fEdges.length : Int)) 0 p.fEdges.length != 0) with
    | true => exact ⟨rfl, rfl⟩
    | false =>
      have an := asc_of (show scan (asc1 p.fNodes (g.fNodes.length : Int)) 0 p.fNodes.length = 0 by simpa using c)
      have ae := asc_of (show scan (asc1 p.fEdges (g.fEdges.length : Int)) 0 p.fEdges.length = 0 by simpa using d)
      rw [cond_false, cond_false, cond_false]
      constructor
      · refine loop1_eq (fun i => scan (dangE g p) i p.fEdges.length) p.fEdges.length (fun rec => ?_) (fun i hi rec ih => ?_) (Nat.zero_le _) (by omega)
        · rw [subgraph_part.b0, decide_eq_false (show ¬ (p.fEdges.length : Int) < (p.fEdges.length : Int) by omega), cond_false, scan_end]
        · have l1 := ae.low i hi; have l2 := ae.high i hi
          have g1 : 0 ≤ rd p.fEdges (i : Int) ∧ rd p.fEdges (i : Int) < (g.fEdges.length : Int) := ⟨l1, l2⟩
          rw [scan_step hi, subgraph_part.b0]; unfold jn; dsimp only
          rw [decide_eq_true (show (i : Int) < (p.fEdges.length : Int) by omega), cond_true, gd ⟨by omega, by omega⟩, gd g1, gd (inR_nat (n := i) (by omega)), ih, has_eq an (by omega) (by omega), has_eq an (by omega) (by omega), Option.bind_some, Option.bind_some, gd g1]
          unfold dangE
          cases decide ((rd g.fEdges (rd p.fEdges (i : Int))).fFrom ∈ p.fNodes) <;> cases decide ((rd g.fEdges (rd p.fEdges (i : Int))).fTo ∈ p.fNodes) <;> rfl
      · refine loop1_eq (fun i => scan (dangE g p) i p.fEdges.length) p.fEdges.length (fun rec => ?_) (fun i hi rec ih => ?_) (Nat.zero_le _) (by omega)
        · rw [ref07_Right.b0, decide_eq_false (show ¬ (p.fEdges.length : Int) < (p.fEdges.length : Int) by omega), cond_false, scan_end]
        · have l1 := ae.low i hi; have l2 := ae.high i hi
          rw [scan_step hi, ref07_Right.b0]; unfold jn; dsimp only
          rw [decide_eq_true (show (i : Int) < (p.fEdges.length : Int) by omega), cond_true, gd ⟨by omega, by omega⟩, gd ⟨l1, l2⟩, gd (inR_nat (n := i) (by omega)), ih, ref_has_eq (by omega) (by omega), ref_has_eq (by omega) (by omega), Option.bind_some, Option.bind_some]
          unfold dangE
          cases decide ((rd g.fEdges (rd p.fEdges (i : Int))).fFrom ∈ p.fNodes) <;> cases decide ((rd g.fEdges (rd p.fEdges (i : Int))).fTo ∈ p.fNodes) <;> rfl
structure PartOk (g : Graph) (p : Part) : Prop where
  n : AscL p.fNodes (g.fNodes.length : Int)
  e : AscL p.fEdges (g.fEdges.length : Int)
  from_ : ∀ i, i < p.fEdges.length → (rd g.fEdges (rd p.fEdges (i : Int))).fFrom ∈ p.fNodes
  to_ : ∀ i, i < p.fEdges.length → (rd g.fEdges (rd p.fEdges (i : Int))).fTo ∈ p.fNodes
theorem part_ok {g : Graph} {p : Part} (h : partS g p = 0) : PartOk g p := by
  unfold partS at h
  cases c : (scan (asc1 p.fNodes (g.fNodes.length : Int)) 0 p.fNodes.length != 0) with
  | true => rw [c, cond_true] at h; rw [h] at c; cases c
  | false =>
    rw [c, cond_false] at h
    cases d : (scan (asc1 p.fEdges (g.fEdges.length : Int)) 0 p.fEdges.length != 0) with
    | true => rw [d, cond_true] at h; rw [h] at d; cases d
    | false =>
      rw [d, cond_false] at h
      have hz : ∀ i, i < p.fEdges.length → (rd g.fEdges (rd p.fEdges (i : Int))).fFrom ∈ p.fNodes ∧ (rd g.fEdges (rd p.fEdges (i : Int))).fTo ∈ p.fNodes := fun i hi => by
        have := scan_zero h i (Nat.zero_le _) hi
        unfold dangE at this
        cases q : (decide ((rd g.fEdges (rd p.fEdges (i : Int))).fFrom ∈ p.fNodes) && decide ((rd g.fEdges (rd p.fEdges (i : Int))).fTo ∈ p.fNodes)) with
        | false => rw [q] at this; cases this
        | true => simpa using q
      exact ⟨asc_of (by simpa using c), asc_of (by simpa using d), fun i hi => (hz i hi).1, fun i hi => (hz i hi).2⟩
/-! ### The graph of a part -/
def ixN (p : Nat → Bool) : Nat → Nat → Int
  | _, 0 => -1
  | i, d + 1 => bif p i then (i : Int) else ixN p (i + 1) d
theorem ixN_at {p : Nat → Bool} {j : Nat} (hp : p j = true) (hb : ∀ i, i < j → p i = false) : ∀ (d i : Nat), i ≤ j → j < i + d → ixN p i d = (j : Int)
  | 0, i, h1, h2 => by omega
  | d + 1, i, h1, h2 => by
    unfold ixN
    rcases Nat.eq_or_lt_of_le h1 with rfl | q
    · rw [hp]; rfl
    · rw [hb i q, cond_false]
      exact ixN_at hp hb d (i + 1) q (by omega)
def idxS (l : List Int) (x : Int) : Int := ixN (fun j => rd l (j : Int) == x) 0 l.length
theorem index_eq {k : Nat} {l : List Int} (hl : l.length ≤ 1000) (hk : l.length < k) (x : Int) : ref07_index k l x = some (idxS l x) := by
  refine loop1_eq (fun i => ixN (fun j => rd l (j : Int) == x) i (l.length - i)) l.length (fun rec => ?_) (fun i hi rec ih => ?_) (Nat.zero_le _) (by omega)
  · rw [ref07_index.b0, decide_eq_false (show ¬ (l.length : Int) < (l.length : Int) by omega), cond_false, Nat.sub_self]; rfl
  · have e : l.length - i = (l.length - (i + 1)) + 1 := by omega
    rw [ref07_index.b0, decide_eq_true (show (i : Int) < (l.length : Int) by omega), cond_true, gd ⟨by omega, by omega⟩, gd (inR_nat (n := i) (by omega)), ih, e, ixN]
    cases (rd l (i : Int) == x) <;> rfl
theorem idx_at {l : List Int} {n x : Int} (h : AscL l n) (hx : x ∈ l) : 0 ≤ idxS l x ∧ idxS l x < (l.length : Int) ∧ rd l (idxS l x) = x := by
  obtain ⟨y, y0, y1, e⟩ := mem_rd.1 hx
  have : idxS l x = (y.toNat : Int) := ixN_at (p := fun j => rd l (j : Int) == x) (by simp only [Int.toNat_of_nonneg y0, beq_iff_eq]; exact e.symm) (fun i hi => by
    have := h.lt (i := i) (j := y.toNat) hi (by omega)
    rw [Int.toNat_of_nonneg y0] at this
    rw [beq_eq_false_iff_ne]; omega) _ _ (Nat.zero_le _) (by omega)
  rw [this, Int.toNat_of_nonneg y0]
  exact ⟨y0, y1, e.symm⟩
theorem bin_idx {k : Nat} {l : List Int} {n x : Int} (h : AscL l n) (hl : l.length ≤ 1000) (hk : l.length < k) (hx : x ∈ l) : ∃ b, slices_BinarySearch_int k l x = some (idxS l x, b) := by
  obtain ⟨r, e, hr⟩ := bin_out (x := x) h hl hk
  obtain ⟨i0, i1, i2⟩ := idx_at h hx
  refine ⟨r.2, ?_⟩
  rw [e, ← hr.at h i0 i1 i2]
def exE (g : Graph) (p : Part) (i : Nat) : Edge := Edge.mk (rd g.fEdges (rd p.fEdges (i : Int))).fType (idxS p.fNodes (rd g.fEdges (rd p.fEdges (i : Int))).fFrom) (idxS p.fNodes (rd g.fEdges (rd p.fEdges (i : Int))).fTo)
def exG (g : Graph) (p : Part) : Graph := Graph.mk ((List.range p.fNodes.length).flatMap fun (i : Nat) => [rd g.fNodes (rd p.fNodes (i : Int))]) ((List.range p.fEdges.length).flatMap fun i => [exE g p i])
theorem exG_two {k : Nat} (hk : 1000 ≤ k) {g : Graph} {p : Part} (ok : PartOk g p) (h1 : p.fNodes.length ≤ 150) (h2 : p.fEdges.length ≤ 150) :
    loop2 k (subgraph_Extract.b0 k g p) [] 0 = some (exG g p, Morphism.mk p.fNodes p.fEdges, 0) ∧ loop2 k (ref07_Extract.b0 k g p) [] 0 = some (exG g p, Morphism.mk p.fNodes p.fEdges, 0) := by
  have lm : 1000 ≤ lim := by decide
  constructor
  · rw [collect_loop (fun i => [rd g.fNodes (rd p.fNodes (i : Int))]) p.fNodes.length 1 (fun s => some (Graph.mk s ((List.range p.fEdges.length).flatMap fun i => [exE g p i]), Morphism.mk p.fNodes p.fEdges, 0)) (fun _ _ => Nat.le_refl _) [] (fun s rec hs => ?_) (fun i hi s rec hs => ?_) (by omega)]
    · rfl
    · rw [subgraph_Extract.b0, decide_eq_false (show ¬ (p.fNodes.length : Int) < (p.fNodes.length : Int) by omega), cond_false]
      rw [collect_loop (fun i => [exE g p i]) p.fEdges.length 1 (fun s2 => some (Graph.mk s s2, Morphism.mk p.fNodes p.fEdges, 0)) (fun _ _ => Nat.le_refl _) [] (fun s rec hs => ?_) (fun i hi s rec hs => ?_) (by omega)]
      · rfl
      · rw [subgraph_Extract.b1, decide_eq_false (show ¬ (p.fEdges.length : Int) < (p.fEdges.length : Int) by omega), cond_false, slices_Clone_int, gd (show p.fNodes.length ≤ lim by omega), Option.bind_some, slices_Clone_int, gd (show p.fEdges.length ≤ lim by omega), Option.bind_some]
      · have hs' : s.length ≤ 0 + 1 * i := hs
        obtain ⟨b1, e1⟩ := bin_idx (k := k) ok.n (by omega) (by omega) (ok.from_ i hi)
        obtain ⟨b2, e2⟩ := bin_idx (k := k) ok.n (by omega) (by omega) (ok.to_ i hi)
        rw [subgraph_Extract.b1, decide_eq_true (show (i : Int) < (p.fEdges.length : Int) by omega), cond_true, gd ⟨by omega, by omega⟩, gd ⟨ok.e.low i hi, ok.e.high i hi⟩, e1, e2, Option.bind_some, Option.bind_some, gd (by rw [List.length_singleton]; omega), gd (inR_nat (n := i) (by omega))]
        rfl
    · have hs' : s.length ≤ 0 + 1 * i := hs
      rw [subgraph_Extract.b0, decide_eq_true (show (i : Int) < (p.fNodes.length : Int) by omega), cond_true, gd ⟨by omega, by omega⟩, gd ⟨ok.n.low i hi, ok.n.high i hi⟩, gd (by rw [List.length_singleton]; omega), gd (inR_nat (n := i) (by omega))]
  · rw [collect_loop (fun i => [rd g.fNodes (rd p.fNodes (i : Int))]) p.fNodes.length 1 (fun s => some (Graph.mk s ((List.range p.fEdges.length).flatMap fun i => [exE g p i]), Morphism.mk p.fNodes p.fEdges, 0)) (fun _ _ => Nat.le_refl _) [] (fun s rec hs => ?_) (fun i hi s rec hs => ?_) (by omega)]
    · rfl
    · rw [ref07_Extract.b0, decide_eq_false (show ¬ (p.fNodes.length : Int) < (p.fNodes.length : Int) by omega), cond_false]
      rw [collect_loop (fun i => [exE g p i]) p.fEdges.length 1 (fun s2 => some (Graph.mk s s2, Morphism.mk p.fNodes p.fEdges, 0)) (fun _ _ => Nat.le_refl _) [] (fun s rec hs => ?_) (fun i hi s rec hs => ?_) (by omega)]
      · rfl
      · rw [ref07_Extract.b1, decide_eq_false (show ¬ (p.fEdges.length : Int) < (p.fEdges.length : Int) by omega), cond_false, gd (show p.fNodes.length ≤ lim by omega), gd (show p.fEdges.length ≤ lim by omega)]
      · have hs' : s.length ≤ 0 + 1 * i := hs
        rw [ref07_Extract.b1, decide_eq_true (show (i : Int) < (p.fEdges.length : Int) by omega), cond_true, gd ⟨by omega, by omega⟩, gd ⟨ok.e.low i hi, ok.e.high i hi⟩, index_eq (by omega) (by omega), index_eq (by omega) (by omega), Option.bind_some, Option.bind_some, gd (by rw [List.length_singleton]; omega), gd (inR_nat (n := i) (by omega))]
        rfl
    · have hs' : s.length ≤ 0 + 1 * i := hs
      rw [ref07_Extract.b0, decide_eq_true (show (i : Int) < (p.fNodes.length : Int) by omega), cond_true, gd ⟨by omega, by omega⟩, gd ⟨ok.n.low i hi, ok.n.high i hi⟩, gd (by rw [List.length_singleton]; omega), gd (inR_nat (n := i) (by omega))]
end Go.Proofs.YthmdmchmmgmblaaGreat

namespace Go.Proofs.YthmdmchmmgmblaaGreat
open Go Go.Abs

theorem len_tab {α : Type} (f : Nat → α) (n : Nat) : ((List.range n).flatMap fun i => [f i]).length = n := by
  rw [← List.map_eq_flatMap]; simp
theorem rd_tab {α : Type} [Inhabited α] (f : Nat → α) {n j : Nat} (hj : j < n) : rd ((List.range n).flatMap fun i => [f i]) (j : Int) = f j := by
  rw [← List.map_eq_flatMap]
  simp [rd, List.getD, List.getElem?_map, List.getElem?_range hj]
theorem firstF_z {e : Nat → Int} {z : Int × Int} : ∀ (d i : Nat), (∀ j, i ≤ j → j < i + d → e j = 0) → firstF e z i d = z
  | 0, _, _ => rfl
  | d + 1, i, h => by
    unfold firstF
    rw [h i (Nat.le_refl _) (by omega), bne_self_eq_false, cond_false]
    exact firstF_z d (i + 1) fun j h1 h2 => h j (by omega) (by omega)
theorem host_more {t : Types} {h : Host} (e : (hostV t h).2 = 0) : graphErr h.fGraph = 0 ∧ ∀ j, j < h.fGraph.fEdges.length → edgeV t h.fGraph j = 0 := by
  have ok := host_ok e
  unfold hostV at e
  rw [ok.val, bne_self_eq_false, cond_false] at e
  cases h1 : (graphErr h.fGraph != 0) with
  | true => rw [h1, cond_true] at e; have e' : graphErr h.fGraph = 0 := e; rw [e'] at h1; cases h1
  | false =>
    rw [h1, cond_false, ok.len, bne_self_eq_false, cond_false] at e
    unfold hostN first at e
    rw [firstF_z _ _ fun j h1 h2 => ok.node j (by omega)] at e
    exact ⟨by simpa using h1, fun j hj => firstF_ok _ _ e j (Nat.zero_le _) (by omega)⟩
def exH (h : Host) (p : Part) : Host := Host.mk (exG h.fGraph p) ((List.range p.fNodes.length).flatMap fun (i : Nat) => [rd h.fValues (rd p.fNodes (i : Int))])
def extS (t : Types) (h : Host) (p : Part) : Host × Int := bif (hostV t h).2 != 0 then (zeroH, (hostV t h).2) else bif partS h.fGraph p != 0 then (zeroH, partS h.fGraph p) else (exH h p, 0)
theorem Extract_two {k : Nat} (hk : 1000 ≤ k) {t : Types} {h : Host} (ht : FewT t) (hh : FewH h) {p : Part} (h1 : p.fNodes.length ≤ 150) (h2 : p.fEdges.length ≤ 150) : host_Extract k t h p = some (extS t h p) ∧ ref15_Extract k t h p = some (extS t h p) := by
  obtain ⟨v1, v2⟩ := host_valid2 hk ht hh.graph
  unfold host_Extract ref15_Extract host_valid extS subgraph_Extract ref07_Extract subgraph_Valid ref07_Valid
  rw [v1, v2, Option.bind_some, Option.bind_some, Option.bind_some]
  cases c : ((hostV t h).2 != 0) with
  | true => exact ⟨rfl, rfl⟩
  | false =>
    have c' : (hostV t h).2 = 0 := by simpa using c
    have ok := host_ok c'
    obtain ⟨g0, -⟩ := host_more c'
    obtain ⟨p1, p2⟩ := part_two hk h.fGraph h1 h2
    have lm : 1000 ≤ lim := by decide
    rw [cond_false, cond_false, cond_false, graph_Valid_eq (by omega) hh.graph, ref05_Valid_eq (by omega) hh.graph, Option.bind_some, Option.bind_some, g0, bne_self_eq_false, cond_false, cond_false, p1, p2]
    simp only [Option.bind_some]
    cases d : (partS h.fGraph p != 0) with
    | true =>
      simp only [cond_true, Option.bind_some, d]
      exact ⟨rfl, rfl⟩
    | false =>
      have po := part_ok (show partS h.fGraph p = 0 by simpa using d)
      obtain ⟨e1, e2⟩ := exG_two hk po h1 h2
      have hl := ok.len
      simp only [cond_false, e1, e2, Option.bind_some, bne_self_eq_false]
      constructor
      · rw [collect_loop (fun (i : Nat) => [rd h.fValues (rd p.fNodes (i : Int))]) p.fNodes.length 1 (fun s => some (Host.mk (exG h.fGraph p) s, 0)) (fun _ _ => Nat.le_refl _) [] (fun s rec hs => ?_) (fun i hi s rec hs => ?_) (by omega)]
        · rfl
        · rw [host_Extract.b0, decide_eq_false (show ¬ (p.fNodes.length : Int) < (p.fNodes.length : Int) by omega), cond_false]
        · have hs' : s.length ≤ 0 + 1 * i := hs
          have l1 := po.n.low i hi; have l2 := po.n.high i hi
          have he := hh.each (rd p.fNodes (i : Int)).toNat (by omega)
          rw [Int.toNat_of_nonneg l1] at he
          rw [host_Extract.b0, decide_eq_true (show (i : Int) < (p.fNodes.length : Int) by omega), cond_true, gd ⟨by omega, by omega⟩, gd (show 0 ≤ rd p.fNodes (i : Int) ∧ rd p.fNodes (i : Int) < (h.fValues.length : Int) by omega), slices_Clone_int, gd (show (rd h.fValues (rd p.fNodes (i : Int))).length ≤ lim by omega), Option.bind_some, gd (by rw [List.length_singleton]; omega), gd (inR_nat (n := i) (by omega))]
      · rw [collect_loop (fun (i : Nat) => [rd h.fValues (rd p.fNodes (i : Int))]) p.fNodes.length 1 (fun s => some (Host.mk (exG h.fGraph p) s, 0)) (fun _ _ => Nat.le_refl _) [] (fun s rec hs => ?_) (fun i hi s rec hs => ?_) (by omega)]
        · rfl
        · rw [ref15_Extract.b0]; dsimp only
          rw [decide_eq_false (show ¬ (p.fNodes.length : Int) < (p.fNodes.length : Int) by omega), cond_false]
        · have hs' : s.length ≤ 0 + 1 * i := hs
          have l1 := po.n.low i hi; have l2 := po.n.high i hi
          have he := hh.each (rd p.fNodes (i : Int)).toNat (by omega)
          rw [Int.toNat_of_nonneg l1] at he
          rw [ref15_Extract.b0]; dsimp only
          rw [decide_eq_true (show (i : Int) < (p.fNodes.length : Int) by omega), cond_true, gd ⟨by omega, by omega⟩, gd (show 0 ≤ rd p.fNodes (i : Int) ∧ rd p.fNodes (i : Int) < (h.fValues.length : Int) by omega), gd (show (rd h.fValues (rd p.fNodes (i : Int))).length ≤ lim by omega), gd (by rw [List.length_singleton]; omega), gd (inR_nat (n := i) (by omega))]
/-! ### The host of a part is a host -/
theorem ex_nodes {g : Graph} {p : Part} : (exG g p).fNodes.length = p.fNodes.length := len_tab _ _
theorem ex_edges {g : Graph} {p : Part} : (exG g p).fEdges.length = p.fEdges.length := len_tab _ _
theorem ex_node {g : Graph} {p : Part} {j : Nat} (hj : j < p.fNodes.length) : rd (exG g p).fNodes (j : Int) = rd g.fNodes (rd p.fNodes (j : Int)) := rd_tab (fun i => rd g.fNodes (rd p.fNodes (i : Int))) hj
theorem ex_edge {g : Graph} {p : Part} {j : Nat} (hj : j < p.fEdges.length) : rd (exG g p).fEdges (j : Int) = exE g p j := rd_tab (exE g p) hj
theorem ex_nodeI {g : Graph} {p : Part} {x : Int} (h0 : 0 ≤ x) (h1 : x < (p.fNodes.length : Int)) : rd (exG g p).fNodes x = rd g.fNodes (rd p.fNodes x) := by
  have := ex_node (g := g) (p := p) (j := x.toNat) (by omega)
  rwa [Int.toNat_of_nonneg h0] at this
theorem ex_valid {t : Types} {h : Host} {p : Part} (e : (hostV t h).2 = 0) (po : PartOk h.fGraph p) : hostV t (exH h p) = (-1, 0) := by
  have ok := host_ok e
  obtain ⟨g0, ed⟩ := host_more e
  have hl := ok.len
  have gn := ok.graph.nodes; have ge := ok.graph.edges
  have ln := po.n.len; have le := po.e.len
  have fr : ∀ j, j < p.fEdges.length → _ := fun j hj => idx_at po.n (po.from_ j hj)
  have to : ∀ j, j < p.fEdges.length → _ := fun j hj => idx_at po.n (po.to_ j hj)
  have ei : ∀ j, j < p.fEdges.length → (rd p.fEdges (j : Int)).toNat < h.fGraph.fEdges.length := fun j hj => by
    have := po.e.low j hj; have := po.e.high j hj; omega
  have good : GoodG (exG h.fGraph p) := by
    refine ⟨by rw [ex_nodes]; omega, by rw [ex_edges]; omega, fun j hj => ?_, fun j hj => ?_⟩
    · rw [ex_nodes] at hj
      have l1 := po.n.low j hj; have l2 := po.n.high j hj
      rw [ex_node hj]
      have := ok.graph.kind (rd p.fNodes (j : Int)).toNat (by omega)
      rwa [Int.toNat_of_nonneg l1] at this
    · rw [ex_edges] at hj
      have r := ok.graph.right _ (ei j hj)
      rw [Int.toNat_of_nonneg (po.e.low j hj)] at r
      rw [ex_edge hj, ex_nodes]
      exact ⟨r.1, ⟨(fr j hj).1, (fr j hj).2.1⟩, (to j hj).1, (to j hj).2.1⟩
  have ty : ∀ j, j < h.fGraph.fEdges.length → (rd h.fGraph.fEdges (j : Int)).fType < (t.fEdges.length : Int) := fun j hj => by
    have := ed j hj
    unfold edgeV at this
    by_cases c : (rd h.fGraph.fEdges (j : Int)).fType ≥ (t.fEdges.length : Int)
    · rw [decide_eq_true c] at this; cases this
    · omega
  obtain ⟨w, h12, h20⟩ := valid_wf ok.val
  have err : graphErr (exG h.fGraph p) = 0 := good_graphErr good fun j hj => by
    rw [ex_edges] at hj
    have := ty _ (ei j hj)
    rw [Int.toNat_of_nonneg (po.e.low j hj)] at this
    rw [ex_edge hj]
    show (rd h.fGraph.fEdges (rd p.fEdges (j : Int))).fType ≤ 99
    omega
  unfold hostV
  rw [ok.val, bne_self_eq_false, cond_false, show graphErr (exH h p).fGraph = 0 from err, bne_self_eq_false, cond_false]
  have lv : (exH h p).fValues.length = (exH h p).fGraph.fNodes.length := by
    show ((List.range p.fNodes.length).flatMap fun (i : Nat) => [rd h.fValues (rd p.fNodes (i : Int))]).length = (exG h.fGraph p).fNodes.length
    rw [len_tab, ex_nodes]
  rw [lv, bne_self_eq_false, cond_false]
  unfold hostN first
  rw [firstF_z, firstF_z]
  · intro j _ hj
    have hj' : j < p.fEdges.length := by
      have : j < (exG h.fGraph p).fEdges.length := by have := hj; simp only [Nat.sub_zero, Nat.zero_add] at this; exact this
      rwa [ex_edges] at this
    have := ed _ (ei j hj')
    rw [← this]
    unfold edgeV
    rw [Int.toNat_of_nonneg (po.e.low j hj')]
    show (bif decide ((rd (exG h.fGraph p).fEdges (j : Int)).fType ≥ (t.fEdges.length : Int)) then (6 : Int) else bif fitsB t (rd (exG h.fGraph p).fEdges (j : Int)).fType (rd (exG h.fGraph p).fNodes (rd (exG h.fGraph p).fEdges (j : Int)).fFrom) (rd (exG h.fGraph p).fNodes (rd (exG h.fGraph p).fEdges (j : Int)).fTo) then 0 else 13) = _
    rw [ex_edge hj']
    unfold exE
    dsimp only
    rw [ex_nodeI (fr j hj').1 (fr j hj').2.1, ex_nodeI (to j hj').1 (to j hj').2.1, (fr j hj').2.2, (to j hj').2.2]
  · intro j _ hj
    have hj' : j < p.fNodes.length := by
      have : j < (exG h.fGraph p).fNodes.length := by have := hj; simp only [Nat.sub_zero, Nat.zero_add] at this; exact this
      rwa [ex_nodes] at this
    have l1 := po.n.low j hj'; have l2 := po.n.high j hj'
    have := ok.node (rd p.fNodes (j : Int)).toNat (by omega)
    rw [Int.toNat_of_nonneg l1] at this
    show nodeV t (rd (exG h.fGraph p).fNodes (j : Int)) (rd ((List.range p.fNodes.length).flatMap fun (i : Nat) => [rd h.fValues (rd p.fNodes (i : Int))]) (j : Int)) = 0
    rw [ex_node hj', rd_tab (fun (i : Nat) => rd h.fValues (rd p.fNodes (i : Int))) hj']
    exact this
theorem few_ex {h : Host} {p : Part} (hh : FewH h) (hl : h.fValues.length = h.fGraph.fNodes.length) (po : PartOk h.fGraph p) : FewH (exH h p) := by
  have ln := po.n.len; have le := po.e.len
  have h1 := hh.graph.nodes; have h2 := hh.graph.edges
  refine ⟨⟨by show (exG h.fGraph p).fNodes.length ≤ 45; rw [ex_nodes]; omega, by show (exG h.fGraph p).fEdges.length ≤ 90; rw [ex_edges]; omega⟩, ?_, fun j hj => ?_⟩
  · show ((List.range p.fNodes.length).flatMap fun (i : Nat) => [rd h.fValues (rd p.fNodes (i : Int))]).length ≤ 45
    rw [len_tab]; omega
  · have hj' : j < p.fNodes.length := by
      have : j < ((List.range p.fNodes.length).flatMap fun (i : Nat) => [rd h.fValues (rd p.fNodes (i : Int))]).length := hj
      rwa [len_tab] at this
    show (rd ((List.range p.fNodes.length).flatMap fun (i : Nat) => [rd h.fValues (rd p.fNodes (i : Int))]) (j : Int)).length ≤ 12
    rw [rd_tab (fun (i : Nat) => rd h.fValues (rd p.fNodes (i : Int))) hj']
    have l1 := po.n.low j hj'; have l2 := po.n.high j hj'
    have := hh.each (rd p.fNodes (j : Int)).toNat (by omega)
    rwa [Int.toNat_of_nonneg l1] at this
theorem ran_ex {h : Host} {p : Part} (r : RanH h) (hl : h.fValues.length = h.fGraph.fNodes.length) (po : PartOk h.fGraph p) : RanH (exH h p) := by
  intro l hl' x hx
  have hm : l ∈ (List.range p.fNodes.length).flatMap fun (i : Nat) => [rd h.fValues (rd p.fNodes (i : Int))] := hl'
  obtain ⟨i, hi, e⟩ := List.mem_flatMap.1 hm
  rw [List.mem_singleton] at e
  rw [List.mem_range] at hi
  have l1 := po.n.low i hi; have l2 := po.n.high i hi
  subst e
  exact r _ (rd_mem l1 (by omega)) x hx
theorem law_extract {k : Nat} (hk : 6000 ≤ k) (aw : law15_awake k = some true) (t : Types) (h : Host) (p : Part) (hA : ∀ n ∈ t.fNodes, n.fAttrs.length ≤ 140737488351232) (rh : RanH h) (hp1 : p.fNodes.length ≤ 140737488351232) (hp2 : p.fEdges.length ≤ 140737488351232) : law15_HostExtract k t h p = some true := by
  unfold law15_HostExtract jn; dsimp only
  rw [aw, Option.bind_some, Bool.not_true, cond_false, Option.bind_some]
  obtain ⟨b, e, hb⟩ := small_out (k := k) (by omega) h hA
  rw [e, Option.bind_some]
  cases b with
  | false => rfl
  | true =>
    obtain ⟨ht, hh⟩ := hb rfl
    rw [Bool.not_true, cond_false, ref07_Few, gd (show inR ((p.fNodes.length : Int) + (p.fEdges.length : Int)) by unfold inR; omega), Option.bind_some]
    by_cases c : (p.fNodes.length : Int) + (p.fEdges.length : Int) ≤ 150
    · obtain ⟨x1, x2⟩ := Extract_two (k := k) (by omega) ht hh (p := p) (by omega) (by omega)
      rw [decide_eq_true c, Bool.not_true, cond_false, copied15 (by omega) hh, Option.bind_some, x1, x2, Option.bind_some, Option.bind_some]
      unfold extS
      cases d : ((hostV t h).2 != 0) with
      | true =>
        rw [cond_true, ref15_Same_eq (by omega) few_zero few_zero ran_zero ran_zero, Option.bind_some]
        simp [d]
      | false =>
        rw [cond_false]
        cases q : (partS h.fGraph p != 0) with
        | true =>
          rw [cond_true, ref15_Same_eq (by omega) few_zero few_zero ran_zero ran_zero, Option.bind_some]
          simp [q]
        | false =>
          have d' : (hostV t h).2 = 0 := by simpa using d
          have ok := host_ok d'
          have po := part_ok (show partS h.fGraph p = 0 by simpa using q)
          have fe := few_ex hh ok.len po
          have re := ran_ex rh ok.len po
          obtain ⟨v1, -⟩ := host_valid2 (k := k) (by omega) ht fe.graph
          rw [cond_false]
          dsimp only
          rw [ref15_Same_eq (by omega) fe fe re re, Option.bind_some, decide_eq_true rfl, Bool.not_true, cond_false, bne_self_eq_false, cond_false, cond_false, v1, ex_valid d' po, Option.bind_some]
          rfl
    · rw [decide_eq_false c]; rfl
end Go.Proofs.YthmdmchmmgmblaaGreat
