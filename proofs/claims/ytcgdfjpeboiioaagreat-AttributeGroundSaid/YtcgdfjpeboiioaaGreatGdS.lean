import Derived.Test.YtcgdfjpeboiioaaGreatGdD
namespace Go.Proofs.YtcgdfjpeboiioaaGreat
open Go Go.Abs
def Out {R : Type} (x : Option R) (P : R → Prop) : Prop := ∃ r, x = some r ∧ P r
theorem Out.some {R : Type} {r : R} {P : R → Prop} (h : P r) : Out (some r) P := ⟨r, rfl, h⟩
theorem Out.bind {R S : Type} {x : Option R} {f : R → Option S} {P : R → Prop} {Q : S → Prop} (h : Out x P) (g : ∀ r, P r → Out (f r) Q) : Out (x.bind f) Q := by
  obtain ⟨r, rfl, hr⟩ := h; exact g r hr
theorem Out.eq {R : Type} {x : Option R} {r : R} (h : Out x (· = r)) : x = Option.some r := by obtain ⟨t, rfl, rfl⟩ := h; rfl
theorem Out.mono {R : Type} {x : Option R} {P Q : R → Prop} (h : Out x P) (g : ∀ r, P r → Q r) : Out x Q := by obtain ⟨r, e, hr⟩ := h; exact ⟨r, e, g r hr⟩
theorem gd {R : Type} {p : Prop} [Decidable p] (h : p) (x : Option R) : (if p then x else none) = x := if_pos h
theorem loop1_out {R : Type} {b : (Int → Option R) → Int → Option R} {I : Nat → Prop} {P : Nat → R → Prop} (n : Nat)
    (hend : I n → ∀ rec, Out (b rec (n : Int)) (P n))
    (hstep : ∀ i, i < n → I i → ∀ rec : Int → Option R, (I (i + 1) → Out (rec ((i : Int) + 1)) (P (i + 1))) → Out (b rec (i : Int)) (P i)) :
    ∀ k i : Nat, i ≤ n → n < k + i → I i → Out (loop1 k b (i : Int)) (P i)
  | 0, i, h, hk, _ => by omega
  | k + 1, i, h, hk, hi => by
    rcases Nat.lt_or_ge i n with hl | hl
    · refine hstep i hl hi _ fun hI => ?_
      have := loop1_out n hend hstep k (i + 1) hl (by omega) hI
      simpa using this
    · have : i = n := by omega
      subst this
      exact hend hi _
theorem loop1_eq {R : Type} {b : (Int → Option R) → Int → Option R} (F : Nat → R) (n : Nat)
    (hend : ∀ rec, b rec (n : Int) = some (F n))
    (hstep : ∀ i, i < n → ∀ rec : Int → Option R, rec ((i : Int) + 1) = some (F (i + 1)) → b rec (i : Int) = some (F i))
    {k i : Nat} (hi : i ≤ n) (hk : n < k + i) : loop1 k b (i : Int) = some (F i) :=
  (loop1_out (I := fun _ => True) (P := fun i r => r = F i) n (fun _ rec => ⟨_, hend rec, rfl⟩)
    (fun i hi _ rec h => ⟨_, hstep i hi rec (h trivial).eq, rfl⟩) k i hi hk trivial).eq
theorem loop2_out {S R : Type} {b : (S → Int → Option R) → S → Int → Option R} {P : S → Nat → R → Prop} {I : S → Nat → Prop} (n : Nat)
    (hend : ∀ s, I s n → ∀ rec, Out (b rec s (n : Int)) (P s n))
    (hstep : ∀ s i, i < n → I s i → ∀ rec : S → Int → Option R, (∀ s', I s' (i + 1) → Out (rec s' ((i : Int) + 1)) (P s' (i + 1))) → Out (b rec s (i : Int)) (P s i)) :
    ∀ (k i : Nat) (s : S), i ≤ n → n < k + i → I s i → Out (loop2 k b s (i : Int)) (P s i)
  | 0, i, s, h, hk, _ => by omega
  | k + 1, i, s, h, hk, hi => by
    rcases Nat.lt_or_ge i n with hl | hl
    · refine hstep s i hl hi _ fun s' hI => ?_
      have := loop2_out n hend hstep k (i + 1) s' hl (by omega) hI
      simpa using this
    · have : i = n := by omega
      subst this
      exact hend s hi _
def scanF (e : Nat → Int) : Nat → Nat → Int
  | _, 0 => 0
  | i, d + 1 => bif e i != 0 then e i else scanF e (i + 1) d
def scan (e : Nat → Int) (i n : Nat) : Int := scanF e i (n - i)
theorem scan_end {e : Nat → Int} {n : Nat} : scan e n n = 0 := by simp [scan, scanF]
theorem scan_step {e : Nat → Int} {i n : Nat} (h : i < n) : scan e i n = bif e i != 0 then e i else scan e (i + 1) n := by
  have : n - i = (n - (i + 1)) + 1 := by omega
  unfold scan; rw [this]; rfl
theorem scan_zero {e : Nat → Int} {n : Nat} : ∀ {i : Nat}, scan e i n = 0 → ∀ j, i ≤ j → j < n → e j = 0 := by
  intro i
  induction hd : n - i generalizing i with
  | zero => intro _ j h1 h2; omega
  | succ d ih =>
    intro h j h1 h2
    rw [scan_step (by omega)] at h
    by_cases he : e i = 0
    · rcases Nat.eq_or_lt_of_le h1 with rfl | h3
      · exact he
      · simp [he] at h
        exact ih (i := i + 1) (by omega) h j h3 h2
    · exfalso
      have : (e i != 0) = true := by simp [he]
      rw [this] at h; exact he h
def anyF (p : Nat → Bool) : Nat → Nat → Bool
  | _, 0 => false
  | i, d + 1 => p i || anyF p (i + 1) d
def anyN (p : Nat → Bool) (i n : Nat) : Bool := anyF p i (n - i)
theorem anyN_end {p : Nat → Bool} {n : Nat} : anyN p n n = false := by simp [anyN, anyF]
theorem anyN_step {p : Nat → Bool} {i n : Nat} (h : i < n) : anyN p i n = (p i || anyN p (i + 1) n) := by
  have : n - i = (n - (i + 1)) + 1 := by omega
  unfold anyN; rw [this]; rfl
theorem anyN_iff {p : Nat → Bool} {n : Nat} : ∀ {i : Nat}, anyN p i n = true ↔ ∃ j, i ≤ j ∧ j < n ∧ p j = true := by
  intro i
  induction hd : n - i generalizing i with
  | zero =>
    have : anyN p i n = false := by simp [anyN, anyF, hd]
    rw [this]; constructor
    · intro h; cases h
    · rintro ⟨j, h1, h2, _⟩; omega
  | succ d ih =>
    rw [anyN_step (by omega), Bool.or_eq_true, ih (i := i + 1) (by omega)]
    constructor
    · rintro (h | ⟨j, h1, h2, h3⟩)
      · exact ⟨i, Nat.le_refl _, by omega, h⟩
      · exact ⟨j, by omega, h2, h3⟩
    · rintro ⟨j, h1, h2, h3⟩
      rcases Nat.eq_or_lt_of_le h1 with rfl | h4
      · exact .inl h3
      · exact .inr ⟨j, h4, h2, h3⟩
theorem anyN_congr {p q : Nat → Bool} {i n : Nat} (h : ∀ j, i ≤ j → j < n → p j = q j) : anyN p i n = anyN q i n := by
  rw [Bool.eq_iff_iff, anyN_iff, anyN_iff]
  exact ⟨fun ⟨j, a, b, c⟩ => ⟨j, a, b, h j a b ▸ c⟩, fun ⟨j, a, b, c⟩ => ⟨j, a, b, (h j a b).symm ▸ c⟩⟩
theorem inR_of {x : Int} (h : -9223372036854775808 ≤ x ∧ x ≤ 9223372036854775807) : inR x := h
theorem inR_nat {n : Nat} (h : n ≤ 1000000) : inR ((n : Int) + 1) := by unfold inR; omega
theorem rd_take {α : Type} [Inhabited α] {l : List α} {i j : Nat} (h : j < i) : rd (l.take i) (j : Int) = rd l (j : Int) := by
  simp [rd, List.getD, List.getElem?_take, h]
theorem rd_mem {α : Type} [Inhabited α] {l : List α} {x : Int} (h0 : 0 ≤ x) (h : x < (l.length : Int)) : rd l x ∈ l := by
  have : x.toNat < l.length := by omega
  simp [rd, List.getD, List.getElem?_eq_getElem this]
def ixb {α : Type} [Inhabited α] (a0 : List α) (a1 : α → Option Bool) (rec0 : Int → Option Int) (x8 : Int) : Option Int :=
  (bif (decide (x8 < (a0.length : Int))) then (if (0 : Int) ≤ x8 ∧ x8 < (a0.length : Int) then ((a1 (rd a0 x8)).bind fun t32 => (bif t32 then (some x8) else (if inR (x8 + 1) then (rec0 (x8 + 1)) else none))) else none) else (some (-1)))
theorem ix_contains {α : Type} [Inhabited α] (l : List α) (f : α → Option Bool) (p : Nat → Bool) (k : Nat) (hk : l.length < k) (hl : l.length ≤ 1000000)
    (hf : ∀ j, j < l.length → f (rd l (j : Int)) = some (p j)) :
    ((loop1 k (ixb l f) 0).bind fun t => some (decide (t ≥ 0))) = some (anyN p 0 l.length) := by
  obtain ⟨r, e, h⟩ := loop1_out (I := fun _ => True) (P := fun i r => decide (r ≥ 0) = anyN p i l.length) (b := ixb l f) l.length
    (fun _ rec => ⟨-1, by simp [ixb], by rw [anyN_end]; decide⟩)
    (fun i hi _ rec ih => by
      rw [anyN_step hi]
      simp only [ixb, hf i hi, Option.bind_some]
      rw [gd (inR_nat (by omega)), gd (by omega)]
      have : decide ((i : Int) < (l.length : Int)) = true := by simp [hi]
      rw [this, cond_true]
      cases hp : p i with
      | true => exact ⟨_, rfl, by simp⟩
      | false => simpa using ih trivial)
    k 0 (Nat.zero_le _) (by omega) trivial
  have e' : loop1 k (ixb l f) 0 = some r := e
  rw [e', Option.bind_some, h]
theorem ContainsFunc_int {k : Nat} (l : List Int) (f : Int → Option Bool) (p : Nat → Bool) (hk : l.length < k) (hl : l.length ≤ 1000000)
    (hf : ∀ j, j < l.length → f (rd l (j : Int)) = some (p j)) : slices_ContainsFunc_int k l f = some (anyN p 0 l.length) := ix_contains l f p k hk hl hf
theorem ContainsFunc_Edge {k : Nat} (l : List Edge) (f : Edge → Option Bool) (p : Nat → Bool) (hk : l.length < k) (hl : l.length ≤ 1000000)
    (hf : ∀ j, j < l.length → f (rd l (j : Int)) = some (p j)) : slices_ContainsFunc_Edge k l f = some (anyN p 0 l.length) := ix_contains l f p k hk hl hf
theorem ContainsFunc_NodeType {k : Nat} (l : List NodeType) (f : NodeType → Option Bool) (p : Nat → Bool) (hk : l.length < k) (hl : l.length ≤ 1000000)
    (hf : ∀ j, j < l.length → f (rd l (j : Int)) = some (p j)) : slices_ContainsFunc_NodeType k l f = some (anyN p 0 l.length) := ix_contains l f p k hk hl hf
theorem ContainsFunc_Attr {k : Nat} (l : List Attr) (f : Attr → Option Bool) (p : Nat → Bool) (hk : l.length < k) (hl : l.length ≤ 1000000)
    (hf : ∀ j, j < l.length → f (rd l (j : Int)) = some (p j)) : slices_ContainsFunc_Attr k l f = some (anyN p 0 l.length) := ix_contains l f p k hk hl hf
theorem ContainsFunc_EdgeType {k : Nat} (l : List EdgeType) (f : EdgeType → Option Bool) (p : Nat → Bool) (hk : l.length < k) (hl : l.length ≤ 1000000)
    (hf : ∀ j, j < l.length → f (rd l (j : Int)) = some (p j)) : slices_ContainsFunc_EdgeType k l f = some (anyN p 0 l.length) := ix_contains l f p k hk hl hf
theorem Contains_string {k : Nat} (l : List Str) (a : Str) (hk : l.length < k) (hl : l.length ≤ 1000000) :
    slices_Contains_string k l a = some (anyN (fun j => a == rd l (j : Int)) 0 l.length) := ix_contains l (fun x => some (a == x)) _ k hk hl (fun _ _ => rfl)
def letterB (c : Int) : Bool := (decide (c ≥ 97) && decide (c ≤ 122)) || (decide (c ≥ 65) && decide (c ≤ 90))
def digitB (c : Int) : Bool := decide (c ≥ 48) && decide (c ≤ 57)
def partB (c : Int) : Bool := (letterB c || digitB c) || c == 95
theorem token_letter_eq {k : Nat} (c : Int) : token_letter k c = some (letterB c) := by
  simp only [token_letter, jn, letterB]
  cases decide (c ≥ 97) <;> cases decide (c ≤ 122) <;> cases decide (c ≥ 65) <;> rfl
theorem ref01_letter_eq {k : Nat} (c : Int) : ref01_letter k c = some (letterB c) := by
  simp only [ref01_letter, jn, letterB]
  cases decide (c ≥ 97) <;> cases decide (c ≤ 122) <;> cases decide (c ≥ 65) <;> rfl
theorem token_digit_eq {k : Nat} (c : Int) : token_digit k c = some (digitB c) := by
  simp only [token_digit, jn, digitB]
  cases decide (c ≥ 48) <;> rfl
theorem ref01_digit_eq {k : Nat} (c : Int) : ref01_digit k c = some (digitB c) := by
  simp only [ref01_digit, jn, digitB]
  cases decide (c ≥ 48) <;> rfl
theorem token_part_eq {k : Nat} (c : Int) : token_part k c = some (partB c) := by
  simp only [token_part, jn, partB, token_letter_eq, token_digit_eq, Option.bind_some]
  cases letterB c <;> cases digitB c <;> rfl
theorem letter_not_digit {c : Int} (h : letterB c = true) : digitB c = false := by
  simp only [letterB, digitB, Bool.or_eq_true, Bool.and_eq_true, decide_eq_true_eq, Bool.and_eq_false_iff, decide_eq_false_iff_not] at *
  omega
def stopF (p : Nat → Bool) : Nat → Nat → Nat
  | i, 0 => i
  | i, d + 1 => bif p i then stopF p (i + 1) d else i
def stopN (p : Nat → Bool) (i n : Nat) : Nat := stopF p i (n - i)
theorem stopN_end {p : Nat → Bool} {n : Nat} : stopN p n n = n := by simp [stopN, stopF]
theorem stopN_step {p : Nat → Bool} {i n : Nat} (h : i < n) : stopN p i n = bif p i then stopN p (i + 1) n else i := by
  have : n - i = (n - (i + 1)) + 1 := by omega
  unfold stopN; rw [this]; rfl
theorem stopF_le {p : Nat → Bool} : ∀ {d i : Nat}, stopF p i d ≤ i + d
  | 0, i => by simp [stopF]
  | d + 1, i => by
    have := stopF_le (p := p) (d := d) (i := i + 1)
    unfold stopF; cases p i <;> simp <;> omega
theorem stopN_le {p : Nat → Bool} {n : Nat} : stopN p 0 n ≤ n := by have := stopF_le (p := p) (d := n) (i := 0); simpa [stopN] using this
theorem stopN_congr {p q : Nat → Bool} {n : Nat} : ∀ {i : Nat}, (∀ j, p j = q j) → stopN p i n = stopN q i n := by
  intro i h; have : p = q := funext h; rw [this]
theorem token_run_eq {k : Nat} (s : Str) (f : Int → Option Bool) (p : Nat → Bool) (hk : s.length < k) (hs : s.length ≤ 1000000)
    (hf : ∀ j, j < s.length → f (bt s (j : Int)) = some (p j)) : token_run k s f = some (stopN p 0 s.length : Int) := by
  refine loop1_eq (fun i => (stopN p i s.length : Int)) s.length (fun rec => ?_) (fun i hi rec ih => ?_) (Nat.zero_le _) (by omega)
  · simp [token_run.b0, jn, stopN_end]
  · rw [stopN_step hi]
    simp only [token_run.b0, jn, hf i hi, Option.bind_some]
    have : decide ((i : Int) < (s.length : Int)) = true := by simp [hi]
    rw [this, cond_true, gd (by omega), gd (inR_nat (by omega))]
    cases p i <;> simp [ih]
theorem ref01_run_eq {k : Nat} (s : Str) (dg : Bool) (hk : s.length < k) (hs : s.length ≤ 1000000) :
    ref01_run k s 0 dg = some (stopN (fun j => digitB (bt s (j : Int)) || (!dg && (letterB (bt s (j : Int)) || (bt s (j : Int)) == 95))) 0 s.length : Int) := by
  refine loop1_eq (fun i => (stopN _ i s.length : Int)) s.length (fun rec => ?_) (fun i hi rec ih => ?_) (Nat.zero_le _) (by omega)
  · simp only [ref01_run.b0, jn, stopN_end, Int.zero_add]
    rw [gd (inR_of (by omega))]
    simp
  · rw [stopN_step hi]
    have : decide ((i : Int) < (s.length : Int)) = true := by simp [hi]
    have h1 : inR (i : Int) := inR_of (by omega)
    have h2 : (0 : Int) ≤ (i : Int) ∧ (i : Int) < (s.length : Int) := by omega
    simp only [ref01_run.b0, jn, Int.zero_add, gd h1, gd h2, this, cond_true, ref01_digit_eq, ref01_letter_eq, Option.bind_some, gd (inR_nat (n := i) (by omega)), ih]
    cases digitB (bt s (i : Int)) <;> cases dg <;> cases letterB (bt s (i : Int)) <;> cases (bt s (i : Int) == 95) <;> rfl
def isNameB (s : Str) : Bool := (s != []) && (letterB (bt s 0) && (decide (stopN (fun j => partB (bt s (j : Int))) 0 s.length ≤ 20) && stopN (fun j => partB (bt s (j : Int))) 0 s.length == s.length))
theorem token_quoted_out {k : Nat} (s : Str) (h0 : 1 ≤ s.length) (hk : s.length < k) (hs : s.length ≤ 1000000) : Out (token_quoted k s) (fun _ => True) := by
  unfold token_quoted
  rw [gd (by omega)]
  have hd : (s.drop (1 : Int).toNat).length = s.length - 1 := by simp
  refine Out.bind (P := fun r => 0 ≤ r ∧ r ≤ (s.length : Int) - 1) ⟨_, token_run_eq (p := fun j => (decide (bt (s.drop (1 : Int).toNat) (j : Int) ≥ 32) && (decide (bt (s.drop (1 : Int).toNat) (j : Int) ≤ 126) && (bt (s.drop (1 : Int).toNat) (j : Int)) != 34))) _ _ (by omega) (by omega) (fun j _ => ?_), ?_⟩ fun r hr => ?_
  · simp only [token_quoted_1, jn]
    cases decide (bt (s.drop (1 : Int).toNat) (j : Int) ≥ 32) <;> cases decide (bt (s.drop (1 : Int).toNat) (j : Int) ≤ 126) <;> rfl
  · refine ⟨by omega, ?_⟩
    have h := stopN_le (p := fun j => (decide (bt (s.drop (1 : Int).toNat) (j : Int) ≥ 32) && (decide (bt (s.drop (1 : Int).toNat) (j : Int) ≤ 126) && (bt (s.drop (1 : Int).toNat) (j : Int)) != 34))) (n := (s.drop (1 : Int).toNat).length)
    rw [hd] at h ⊢
    omega
  · simp only [jn]
    rw [gd (inR_of (by omega))]
    cases hb : (1 + r == (s.length : Int)) with
    | true => exact ⟨_, rfl, trivial⟩
    | false =>
      have : 1 + r ≠ (s.length : Int) := by simpa using hb
      rw [cond_false, gd (inR_of (by omega)), gd (by omega)]
      cases (bt s (1 + r) != 34) with
      | true => exact ⟨_, rfl, trivial⟩
      | false =>
        rw [cond_false]
        cases decide (r > 60) with
        | true => exact ⟨_, rfl, trivial⟩
        | false => rw [cond_false, gd (inR_of (by omega))]; exact ⟨_, rfl, trivial⟩
theorem token_pair_out {k : Nat} (s : Str) (hk : 10 ≤ k) : Out (token_pair k s) (fun _ => True) := by
  unfold token_pair; simp only [jn]
  cases hb : decide ((s.length : Int) ≥ 2) with
  | false => exact ⟨_, rfl, trivial⟩
  | true =>
    simp at hb
    rw [cond_true, gd (by omega), Contains_string _ _ (by simp; omega) (by simp)]
    exact ⟨_, rfl, trivial⟩
theorem token_next_out {k : Nat} (s : Str) (h0 : 1 ≤ s.length) (hk : s.length < k) (hk' : 10 ≤ k) (hs : s.length ≤ 1000000) (hl : letterB (bt s 0) = false) :
    Out (token_next k s) (fun r => r.2.2 ≠ 0 ∨ r.1 ≠ 1) := by
  unfold token_next
  rw [gd (by omega), token_letter_eq, Option.bind_some, hl, cond_false, token_digit_eq, Option.bind_some]
  cases digitB (bt s 0) with
  | true =>
    rw [cond_true, token_run_eq (p := fun j => digitB (bt s (j : Int))) _ _ hk hs (fun j _ => token_digit_eq _), Option.bind_some]
    cases decide ((stopN (fun j => digitB (bt s (j : Int))) 0 s.length : Int) > 9)
    · exact ⟨_, rfl, .inr (by simp)⟩
    · exact ⟨_, rfl, .inl (by simp)⟩
  | false =>
    rw [cond_false]
    cases (bt s 0 == 34) with
    | true => rw [cond_true]; exact Out.bind (token_quoted_out s h0 hk hs) fun r _ => ⟨_, rfl, .inr (by simp)⟩
    | false =>
      rw [cond_false]
      refine Out.bind (token_pair_out s hk') fun r _ => ?_
      cases r with
      | true => exact ⟨_, rfl, .inr (by simp)⟩
      | false =>
        simp only [cond_false, strings_IndexByte, stringslite_IndexByte, Option.bind_some]
        generalize decide (_ ≥ (0 : Int)) = b
        cases b
        · exact ⟨_, rfl, .inl (by decide)⟩
        · exact ⟨_, rfl, .inr (by decide)⟩
theorem token_IsName_eq {k : Nat} (hk : 200 ≤ k) (s : Str) (hs : s.length ≤ 100) : token_IsName k s = some (isNameB s) := by
  unfold token_IsName token_whole jn; dsimp only
  rw [show ((1 : Int) == 3) = false from rfl, cond_false]
  cases s with
  | nil => simp [isNameB]
  | cons c t =>
    rw [show (((c :: t : Str) == ([] : Str))) = false from rfl, cond_false]
    generalize hS : (c :: t : Str) = s at *
    have h0 : 1 ≤ s.length := by subst hS; simp
    have hne : (s != []) = true := by subst hS; rfl
    cases hl : letterB (bt s 0) with
    | true =>
      unfold token_next
      rw [gd (by omega), token_letter_eq, Option.bind_some, hl, cond_true, token_run_eq (p := fun j => partB (bt s (j : Int))) _ _ (by omega) (by omega) (fun j _ => token_part_eq _), Option.bind_some]
      simp only [isNameB, hne, hl, Bool.true_and]
      by_cases hg : stopN (fun j => partB (bt s (j : Int))) 0 s.length ≤ 20
      · have h1 : decide ((stopN (fun j => partB (bt s (j : Int))) 0 s.length : Int) > 20) = false := by simp; omega
        rw [h1, cond_false, decide_eq_true hg]
        simp only [Option.bind_some, Bool.true_and, beq_self_eq_true, cond_true]
        congr 1
        rw [Bool.eq_iff_iff, beq_iff_eq, beq_iff_eq]; omega
      · have h1 : decide ((stopN (fun j => partB (bt s (j : Int))) 0 s.length : Int) > 20) = true := by simp; omega
        rw [h1, cond_true, decide_eq_false hg]
        rfl
    | false =>
      obtain ⟨r, e, h⟩ := token_next_out (k := k) s h0 (by omega) (by omega) (by omega) hl
      rw [e, Option.bind_some]
      simp only [isNameB, hne, hl, Bool.true_and, Bool.false_and]
      rcases h with h | h
      · have : (r.2.2 == 0) = false := by simp [h]
        rw [this]; rfl
      · have : (r.1 == 1) = false := by simp [h]
        rw [this]; cases (r.2.2 == 0) <;> rfl
theorem ref01_quoted_out {k : Nat} (s : Str) (h0 : 1 ≤ s.length) (hk : s.length < k) (hs : s.length ≤ 1000000) : Out (ref01_quoted k s 0) (fun r => r = 0 ∨ (2 ≤ r ∧ r ≤ (s.length : Int))) := by
  refine loop1_out (I := fun i => 1 ≤ i) (P := fun _ r => r = 0 ∨ (2 ≤ r ∧ r ≤ (s.length : Int))) s.length (fun _ rec => ?_) (fun i hi h1 rec ih => ?_) k 1 h0 (by omega) (by omega)
  · simp only [ref01_quoted.b0, jn, Int.zero_add]
    rw [gd (inR_of (by omega))]
    refine ⟨0, by simp, .inl rfl⟩
  · have : decide ((i : Int) < (s.length : Int)) = true := by simp [hi]
    have g1 : inR (i : Int) := inR_of (by omega)
    have g2 : (0 : Int) ≤ (i : Int) ∧ (i : Int) < (s.length : Int) := by omega
    simp only [ref01_quoted.b0, jn, Int.zero_add, gd g1, gd g2, this, cond_true, gd (inR_nat (n := i) (by omega))]
    cases (bt s (i : Int) == 34) with
    | true => exact ⟨_, rfl, .inr (by omega)⟩
    | false =>
      rw [cond_false]
      cases decide (bt s (i : Int) < 32) with
      | true => exact ⟨_, rfl, .inl rfl⟩
      | false =>
        cases decide (bt s (i : Int) > 126) with
        | true => exact ⟨_, rfl, .inl rfl⟩
        | false => exact ih (by omega)
theorem ref01_one_out {k : Nat} (s : Str) (h0 : 1 ≤ s.length) (hk : s.length < k) (hk' : 100 ≤ k) (hs : s.length ≤ 1000000) (hl : letterB (bt s 0) = false) :
    Out (ref01_one k s 0) (fun r => r.2.2 ≠ 0 ∨ r.1.fKind ≠ 1) := by
  unfold ref01_one; simp only [jn]
  rw [gd (by omega)]
  simp only [ref01_letter_eq, ref01_digit_eq, Option.bind_some, hl, cond_false]
  cases hd : digitB (bt s 0) with
  | true =>
    rw [cond_true, ref01_run_eq _ _ hk hs, Option.bind_some]
    have hle := stopN_le (p := fun j => digitB (bt s (j : Int)) || (!true && (letterB (bt s (j : Int)) || (bt s (j : Int)) == 95))) (n := s.length)
    generalize hn : stopN (fun j => digitB (bt s (j : Int)) || (!true && (letterB (bt s (j : Int)) || (bt s (j : Int)) == 95))) 0 s.length = n at *
    rw [cond_true]
    cases decide ((n : Int) > 9) with
    | true => exact ⟨_, rfl, .inl (by simp)⟩
    | false =>
      rw [cond_false, gd (inR_of (by omega)), gd (by omega)]
      exact ⟨_, rfl, .inr (by simp)⟩
  | false =>
    rw [cond_false]
    cases (bt s 0 == 34) with
    | true =>
      rw [cond_true]
      refine Out.bind (ref01_quoted_out s h0 hk hs) fun r hr => ?_
      cases hz : (r == 0) with
      | true => exact ⟨_, rfl, .inl (by simp)⟩
      | false =>
        have hz' : r ≠ 0 := by simpa using hz
        rw [cond_false, gd (inR_of (by omega))]
        cases decide (r - 2 > 60) with
        | true => exact ⟨_, rfl, .inl (by simp)⟩
        | false =>
          rw [cond_false, gd (inR_of (by omega)), gd (inR_of (by omega)), gd (inR_of (by omega)), gd (by omega)]
          exact ⟨_, rfl, .inr (by simp)⟩
    | false =>
      rw [cond_false, ref01_signs, Option.bind_some]
      generalize hL : ([([45, 62] : Str), ([60, 61] : Str), ([62, 61] : Str), ([61, 61] : Str), ([33, 61] : Str), ([123] : Str), ([125] : Str), ([40] : Str), ([41] : Str), ([91] : Str), ([93] : Str), ([44] : Str), ([59] : Str), ([58] : Str), ([61] : Str), ([43] : Str), ([45] : Str), ([42] : Str), ([60] : Str), ([62] : Str), ([33] : Str), ([38] : Str), ([124] : Str), ([46] : Str), ([63] : Str)] : List Str) = L
      have hLl : L.length = 25 := by subst hL; rfl
      have hLe : ∀ x ∈ L, x.length ≤ 2 := by subst hL; decide
      refine loop1_out (I := fun _ => True) (P := fun _ (r : Token × Int × Int) => r.2.2 ≠ 0 ∨ r.1.fKind ≠ 1) L.length (fun _ rec => ?_) (fun i hi h1 rec ih => ?_) k 0 (Nat.zero_le _) (by omega) trivial
      · exact ⟨(Token.mk 0 [] 0, 0, 2), by simp [ref01_one.b0], .inl (by simp)⟩
      · have : decide ((i : Int) < (L.length : Int)) = true := by simp [hi]
        have g2 : (0 : Int) ≤ (i : Int) ∧ (i : Int) < (L.length : Int) := by omega
        have g3 := hLe _ (rd_mem g2.1 g2.2)
        have g4 : inR ((rd L (i : Int)).length : Int) := inR_of (by omega)
        simp only [ref01_one.b0, jn, Int.zero_add, gd g2, this, cond_true, gd (inR_nat (n := i) (by omega)), gd g4]
        cases hb : decide (((rd L (i : Int)).length : Int) ≤ (s.length : Int)) with
        | false => rw [cond_false, cond_false]; exact ih trivial
        | true =>
          have hb' : ((rd L (i : Int)).length : Int) ≤ (s.length : Int) := by simpa using hb
          rw [cond_true, gd (by omega)]
          generalize (List.drop _ (s.take _) == rd L (i : Int)) = q
          cases q with
          | true => exact ⟨_, rfl, .inr (by simp)⟩
          | false => exact ih trivial
theorem ref01_IsName_eq {k : Nat} (hk : 200 ≤ k) (s : Str) (hs : s.length ≤ 100) : ref01_IsName k s = some (isNameB s) := by
  unfold ref01_IsName ref01_Right ref01_text
  rw [show ((1 : Int) == 3) = false from rfl, cond_false, Option.bind_some]
  cases s with
  | nil => simp [isNameB]
  | cons c t =>
    rw [show (((c :: t : Str) == ([] : Str))) = false from rfl, cond_false]
    generalize hS : (c :: t : Str) = s at *
    have h0 : 1 ≤ s.length := by subst hS; simp
    have hne : (s != []) = true := by subst hS; rfl
    cases hl : letterB (bt s 0) with
    | true =>
      unfold ref01_one; simp only [jn]
      rw [gd (by omega)]
      simp only [ref01_letter_eq, ref01_digit_eq, Option.bind_some, hl, cond_true, letter_not_digit hl, cond_false]
      rw [ref01_run_eq _ _ (by omega) (by omega), Option.bind_some]
      have hc := stopN_congr (p := fun j => digitB (bt s (j : Int)) || (!false && (letterB (bt s (j : Int)) || (bt s (j : Int)) == 95))) (q := fun j => partB (bt s (j : Int))) (n := s.length) (i := 0)
        (fun j => by simp only [partB]; cases digitB (bt s (j : Int)) <;> cases letterB (bt s (j : Int)) <;> rfl)
      rw [hc]
      have hle := stopN_le (p := fun j => partB (bt s (j : Int))) (n := s.length)
      simp only [isNameB, hne, hl, Bool.true_and]
      generalize stopN (fun j => partB (bt s (j : Int))) 0 s.length = n at *
      by_cases hg : n ≤ 20
      · have h1 : decide ((n : Int) > 20) = false := by simp; omega
        rw [h1, cond_false, decide_eq_true hg, gd (inR_of (by omega)), gd (by omega)]
        simp only [Option.bind_some, Bool.true_and, beq_self_eq_true, cond_true]
        have h2 : ((n : Int) == (s.length : Int)) = (n == s.length) := by rw [Bool.eq_iff_iff, beq_iff_eq, beq_iff_eq]; omega
        rw [h2]; cases (n == s.length) <;> rfl
      · have h1 : decide ((n : Int) > 20) = true := by simp; omega
        rw [h1, cond_true, decide_eq_false hg]
        rfl
    | false =>
      obtain ⟨r, e, h⟩ := ref01_one_out (k := k) s h0 (by omega) (by omega) (by omega) hl
      rw [e, Option.bind_some]
      simp only [jn, isNameB, hne, hl, Bool.true_and, Bool.false_and]
      rcases h with h | h
      · have : (r.2.2 == 0) = false := by simp [h]
        rw [this]; rfl
      · have : (r.1.fKind == 1) = false := by simp [h]
        rw [this]; cases (r.2.2 == 0) <;> cases (r.2.1 == (s.length : Int)) <;> rfl
structure FewA (x : Attr) : Prop where
  name : x.fName.length ≤ 40
  names : x.fNames.length ≤ 25
  each : ∀ s ∈ x.fNames, s.length ≤ 40
structure FewT (t : Types) : Prop where
  nodes : t.fNodes.length ≤ 20
  edges : t.fEdges.length ≤ 30
  nname : ∀ n ∈ t.fNodes, n.fName.length ≤ 40
  nattr : ∀ n ∈ t.fNodes, n.fAttrs.length ≤ 30
  attr : ∀ n ∈ t.fNodes, ∀ x ∈ n.fAttrs, FewA x
  ename : ∀ x ∈ t.fEdges, x.fName.length ≤ 40
def namesErr (l : List Str) (i : Nat) : Int := bif !isNameB (rd l (i : Int)) then 2 else bif anyN (fun j => rd l (j : Int) == rd l (i : Int)) 0 i then 5 else 0
def namesS (l : List Str) : Int := bif decide ((l.length : Int) > 20) then 3 else scan (namesErr l) 0 l.length
theorem types_names_eq {k : Nat} (hk : 200 ≤ k) (l : List Str) (hl : ∀ s ∈ l, s.length ≤ 100) : types_names k l = some (namesS l) := by
  unfold types_names namesS
  cases hb : decide ((l.length : Int) > 20) with
  | true => rfl
  | false =>
    simp at hb
    rw [cond_false, cond_false]
    refine loop1_eq (fun i => scan (namesErr l) i l.length) l.length (fun rec => ?_) (fun i hi rec ih => ?_) (Nat.zero_le _) (by omega)
    · simp [types_names.b0, scan_end]
    · rw [scan_step hi]
      have h1 : decide ((i : Int) < (l.length : Int)) = true := by simp [hi]
      have h2 : (0 : Int) ≤ (i : Int) ∧ (i : Int) < (l.length : Int) := by omega
      have h3 : (l.take (i : Int).toNat).length = i := by simp; omega
      have h4 := token_IsName_eq (k := k) hk (rd l (i : Int)) (hl _ (rd_mem h2.1 h2.2))
      have h5 := Contains_string (k := k) (l.take (i : Int).toNat) (rd l (i : Int)) (by omega) (by omega)
      rw [h3] at h5
      rw [anyN_congr (q := fun j => rd l (j : Int) == rd l (i : Int)) (fun j _ hj => by rw [show (i : Int).toNat = i from rfl, rd_take hj, Bool.beq_comm])] at h5
      simp only [types_names.b0, h1, cond_true, gd h2, h4, Option.bind_some, gd (show (0 : Int) ≤ (i : Int) ∧ (i : Int) ≤ (l.length : Int) by omega), h5, gd (inR_nat (n := i) (by omega)), ih, namesErr]
      cases isNameB (rd l (i : Int)) <;> cases anyN (fun j => rd l (j : Int) == rd l (i : Int)) 0 i <;> rfl
theorem ref04_names_eq {k : Nat} (hk : 200 ≤ k) (l : List Str) (hl : ∀ s ∈ l, s.length ≤ 100) : ref04_names k l = some (namesS l) := by
  unfold ref04_names namesS
  cases hb : decide ((l.length : Int) > 20) with
  | true => rfl
  | false =>
    simp at hb
    rw [cond_false, cond_false]
    refine loop1_eq (fun i => scan (namesErr l) i l.length) l.length (fun rec => ?_) (fun i hi rec ih => ?_) (Nat.zero_le _) (by omega)
    · simp only [ref04_names.b0, scan_end, show decide ((l.length : Int) < (l.length : Int)) = false by simp, cond_false]
    · rw [scan_step hi]
      have h1 : decide ((i : Int) < (l.length : Int)) = true := by simp [hi]
      have h2 : (0 : Int) ≤ (i : Int) ∧ (i : Int) < (l.length : Int) := by omega
      have h4 := ref01_IsName_eq (k := k) hk (rd l (i : Int)) (hl _ (rd_mem h2.1 h2.2))
      have h5 : loop1 k (ref04_names.b1 l (i : Int) rec) ((0 : Nat) : Int) = some (bif anyN (fun j => rd l (j : Int) == rd l (i : Int)) 0 i then 5 else scan (namesErr l) (i + 1) l.length) := by
        refine loop1_eq (fun j => bif anyN (fun j => rd l (j : Int) == rd l (i : Int)) j i then 5 else scan (namesErr l) (i + 1) l.length) i (fun rec1 => ?_) (fun j hj rec1 ih1 => ?_) (Nat.zero_le _) (by omega)
        · simp only [ref04_names.b1, anyN_end, cond_false, gd (inR_nat (n := i) (by omega)), ih, show decide ((i : Int) < (i : Int)) = false by simp]
        · rw [anyN_step hj, ref04_names.b1, show decide ((j : Int) < (i : Int)) = true by simp [hj], cond_true, gd (show (0 : Int) ≤ (j : Int) ∧ (j : Int) < (l.length : Int) by omega), gd h2, gd (inR_nat (n := j) (by omega)), ih1]
          cases (rd l (j : Int) == rd l (i : Int)) with
          | true => rw [cond_true, Bool.true_or, cond_true]
          | false => rw [cond_false, Bool.false_or]
      have h6 : loop1 k (ref04_names.b1 l (i : Int) rec) 0 = _ := h5
      simp only [ref04_names.b0, h1, cond_true, gd h2, h4, Option.bind_some, h6, namesErr]
      cases isNameB (rd l (i : Int)) <;> cases anyN (fun j => rd l (j : Int) == rd l (i : Int)) 0 i <;> simp
def attrOwn (x : Attr) : Int :=
  bif namesS x.fNames != 0 then namesS x.fNames
  else bif decide ((x.fNames.length : Int) > 0) then (bif x.fLow == 0 && x.fHigh == (x.fNames.length : Int) - 1 then 0 else 6)
  else (bif decide (-1000000 ≤ x.fLow) && (decide (x.fLow ≤ x.fHigh) && decide (x.fHigh ≤ 1000000)) then 0 else 6)
def attrErr (all : List Attr) (i : Nat) : Int :=
  bif !isNameB (rd all (i : Int)).fName then 2 else bif anyN (fun j => (rd all (j : Int)).fName == (rd all (i : Int)).fName) 0 i then 5 else attrOwn (rd all (i : Int))
theorem types_attribute_eq {k : Nat} (hk : 200 ≤ k) (all : List Attr) (i : Nat) (hi : i < all.length) (hl : all.length ≤ 100) (hf : FewA (rd all (i : Int))) :
    types_attribute k (rd all (i : Int)) (all.take (i : Int).toNat) = some (attrErr all i) := by
  have h3 : (all.take (i : Int).toNat).length = i := by simp; omega
  have h4 := token_IsName_eq (k := k) hk (rd all (i : Int)).fName (by have := hf.name; omega)
  have h5 := ContainsFunc_Attr (k := k) (all.take (i : Int).toNat) (fun x => types_attribute_1 k x (rd all (i : Int))) _ (by omega) (by omega) (fun j _ => rfl)
  rw [h3, anyN_congr (q := fun j => (rd all (j : Int)).fName == (rd all (i : Int)).fName) (fun j _ hj => by rw [show (i : Int).toNat = i from rfl, rd_take hj])] at h5
  have h6 := types_names_eq (k := k) hk (rd all (i : Int)).fNames (fun s hs => by have := hf.each s hs; omega)
  unfold types_attribute attrErr attrOwn
  rw [h4, Option.bind_some, h5, Option.bind_some, h6, Option.bind_some]
  generalize rd all (i : Int) = x at *
  have hn := hf.names
  cases isNameB x.fName with
  | false => rfl
  | true =>
    cases anyN (fun j => (rd all (j : Int)).fName == x.fName) 0 i with
    | true => rfl
    | false =>
      cases hz : namesS x.fNames != 0 with
      | true => rfl
      | false =>
        simp only [jn, Bool.not_true, cond_false]
        cases decide ((x.fNames.length : Int) > 0) with
        | true =>
          simp only [cond_true, gd (inR_of (x := (x.fNames.length : Int) - 1) (by omega))]
          cases decide (-1000000 ≤ x.fLow) <;> cases decide (x.fLow ≤ x.fHigh) <;> cases (x.fLow == 0) <;> cases (x.fHigh == (x.fNames.length : Int) - 1) <;> rfl
        | false =>
          cases decide (-1000000 ≤ x.fLow) <;> cases decide (x.fLow ≤ x.fHigh) <;> cases decide (x.fHigh ≤ 1000000) <;> rfl
theorem ref04_in_eq {k : Nat} (a b c : Int) : ref04_in k a b c = some (decide (a ≥ b) && decide (a ≤ c)) := by
  simp only [ref04_in, jn]; cases decide (a ≥ b) <;> rfl
theorem ref04_attribute_eq {k : Nat} (hk : 200 ≤ k) (x : Attr) (hf : FewA x) : ref04_attribute k x = some (attrOwn x) := by
  have h6 := ref04_names_eq (k := k) hk x.fNames (fun s hs => by have := hf.each s hs; omega)
  unfold ref04_attribute attrOwn
  simp only [h6, jn, ref04_in_eq, Option.bind_some]
  have hn := hf.names
  cases hz : ((x.fNames.length : Int) == 0) with
  | true =>
    have hz' : x.fNames = [] := by
      have : (x.fNames.length : Int) = 0 := by simpa using hz
      exact List.length_eq_zero_iff.1 (by omega)
    rw [hz']
    have : namesS [] = 0 := rfl
    rw [this]
    simp only [bne_self_eq_false, cond_false, cond_true, List.length_nil]
    rw [show decide ((((0 : Nat) : Int)) > 0) = false from rfl, cond_false]
    by_cases h1 : -1000000 ≤ x.fLow <;> by_cases h2 : x.fLow ≤ 1000000 <;> by_cases h3 : x.fLow ≤ x.fHigh <;> by_cases h4 : x.fHigh ≤ 1000000 <;> simp [h1, h2, h3, h4] <;> omega
  | false =>
    have hz' : (x.fNames.length : Int) ≠ 0 := by simpa using hz
    rw [cond_false, decide_eq_true (show (x.fNames.length : Int) > 0 by omega), cond_true, gd (inR_of (x := (x.fNames.length : Int) - 1) (by omega))]
    cases (namesS x.fNames != 0) with
    | true => rfl
    | false =>
      simp only [cond_false, bne]
      cases (x.fLow == 0) <;> cases (x.fHigh == (x.fNames.length : Int) - 1) <;> rfl
def attrsS (ns : List NodeType) : Nat → Int → List Attr
  | 0, _ => []
  | d + 1, a => bif decide (a < 0) then [] else attrsS ns d (rd ns a).fParent ++ (rd ns a).fAttrs
def WfP (ns : List NodeType) (n : Nat) : Prop := n ≤ ns.length ∧ ∀ j : Nat, j < n → -1 ≤ (rd ns (j : Int)).fParent ∧ (rd ns (j : Int)).fParent < (j : Int)
theorem attrsS_neg {ns : List NodeType} {d : Nat} {a : Int} (h : a < 0) : attrsS ns d a = [] := by cases d <;> simp [attrsS, h]
theorem attrsS_pos {ns : List NodeType} {d : Nat} {a : Int} (h : 0 ≤ a) : attrsS ns (d + 1) a = attrsS ns d (rd ns a).fParent ++ (rd ns a).fAttrs := by
  have : decide (a < 0) = false := by simp; omega
  simp [attrsS, this]
theorem wf_at {ns : List NodeType} {n : Nat} (w : WfP ns n) {a : Int} (h0 : 0 ≤ a) (h : a < (n : Int)) : -1 ≤ (rd ns a).fParent ∧ (rd ns a).fParent < a := by
  have := w.2 a.toNat (by omega)
  rwa [Int.toNat_of_nonneg h0] at this
theorem attrsS_len {ns : List NodeType} {n : Nat} (w : WfP ns n) (hn : ∀ x ∈ ns, x.fAttrs.length ≤ 30) : ∀ (d : Nat) (a : Int), a < (n : Int) → (attrsS ns d a).length ≤ 30 * d
  | 0, _, _ => by simp [attrsS]
  | d + 1, a, h => by
    rcases Int.lt_or_le a 0 with ha | ha
    · rw [attrsS_neg ha]; simp
    · have hw := wf_at w ha h
      have hm := hn _ (rd_mem (l := ns) ha (by have := w.1; omega))
      have ih := attrsS_len w hn d (rd ns a).fParent (by omega)
      rw [attrsS_pos ha, List.length_append]
      omega
theorem attrsS_all {ns : List NodeType} {n : Nat} {G : Attr → Prop} (w : WfP ns n) (hn : ∀ x ∈ ns, ∀ a ∈ x.fAttrs, G a) : ∀ (d : Nat) (a : Int), a < (n : Int) → ∀ x ∈ attrsS ns d a, G x
  | 0, _, _ => by simp [attrsS]
  | d + 1, a, h => by
    rcases Int.lt_or_le a 0 with ha | ha
    · rw [attrsS_neg ha]; simp
    · have hw := wf_at w ha h
      have ih := attrsS_all w hn d (rd ns a).fParent (by omega)
      rw [attrsS_pos ha]
      intro x hx
      rcases List.mem_append.1 hx with hx | hx
      · exact ih x hx
      · exact hn _ (rd_mem (l := ns) ha (by have := w.1; omega)) x hx
theorem types_attrs_eq {t : Types} {n : Nat} (w : WfP t.fNodes n) (hn : ∀ x ∈ t.fNodes, x.fAttrs.length ≤ 30) : ∀ (d k : Nat) (a : Int), d ≤ 1000 → d ≤ k → 0 ≤ a → a < (d : Int) → a < (n : Int) →
    types_attrs k t a = some (attrsS t.fNodes d a)
  | 0, _, _, _, _, h0, h1, _ => by omega
  | d + 1, 0, _, _, hk, _, _, _ => by omega
  | d + 1, k + 1, a, hd, hk, h0, h1, h2 => by
    have hw := wf_at w h0 h2
    have g : (0 : Int) ≤ a ∧ a < (t.fNodes.length : Int) := ⟨h0, by have := w.1; omega⟩
    have hm := hn _ (rd_mem g.1 g.2)
    have hl := attrsS_len w hn d (rd t.fNodes a).fParent (by omega)
    rw [attrsS_pos h0]
    unfold types_attrs types_attrs.main
    simp only [jn, gd g]
    cases hp : decide ((rd t.fNodes a).fParent ≥ 0) with
    | true =>
      have hp' : (rd t.fNodes a).fParent ≥ 0 := by simpa using hp
      rw [cond_true, types_attrs_eq w hn d k _ (by omega) (by omega) hp' (by omega) (by omega), Option.bind_some, gd (by unfold lim; omega)]
    | false =>
      have hp' : (rd t.fNodes a).fParent < 0 := by have : ¬ (rd t.fNodes a).fParent ≥ 0 := by simpa using hp
                                                   omega
      rw [cond_false, attrsS_neg hp', gd (by simp [lim]; omega)]
theorem ref04_attrs_eq {t : Types} {n : Nat} (w : WfP t.fNodes n) (hn : ∀ x ∈ t.fNodes, x.fAttrs.length ≤ 30) : ∀ (d k : Nat) (a : Int), d ≤ 1000 → d < k → a < (d : Int) → a < (n : Int) →
    ref04_attrs k t a = some (attrsS t.fNodes d a)
  | d, 0, _, _, hk, _, _ => by omega
  | 0, k + 1, a, _, _, h1, _ => by
    unfold ref04_attrs ref04_attrs.main
    rw [decide_eq_true (show a < 0 by omega)]; rfl
  | d + 1, k + 1, a, hd, hk, h1, h2 => by
    unfold ref04_attrs ref04_attrs.main
    rcases Int.lt_or_le a 0 with ha | ha
    · rw [decide_eq_true ha, attrsS_neg ha]; rfl
    · have hw := wf_at w ha h2
      have g : (0 : Int) ≤ a ∧ a < (t.fNodes.length : Int) := ⟨ha, by have := w.1; omega⟩
      have hm := hn _ (rd_mem g.1 g.2)
      have hl := attrsS_len w hn d (rd t.fNodes a).fParent (by omega)
      rw [decide_eq_false (show ¬ a < 0 by omega), cond_false, attrsS_pos ha, gd g, ref04_attrs_eq w hn d k _ (by omega) (by omega) (by omega) (by omega), Option.bind_some, gd (by unfold lim; omega), gd g, gd (by unfold lim; omega)]
def nodeErr (t : Types) (i : Nat) : Int :=
  bif !isNameB (rd t.fNodes (i : Int)).fName then 2
  else bif anyN (fun j => (rd t.fNodes (j : Int)).fName == (rd t.fNodes (i : Int)).fName) 0 i then 5
  else bif decide ((rd t.fNodes (i : Int)).fParent < -1) || decide ((rd t.fNodes (i : Int)).fParent ≥ (i : Int)) then 6
  else bif decide (((rd t.fNodes (i : Int)).fAttrs.length : Int) > 4) then 3
  else bif decide (((attrsS t.fNodes 100 (i : Int)).length : Int) > 8) then 3
  else scan (attrErr (attrsS t.fNodes 100 (i : Int))) ((attrsS t.fNodes 100 (i : Int)).length - (rd t.fNodes (i : Int)).fAttrs.length) (attrsS t.fNodes 100 (i : Int)).length
theorem wf_succ {ns : List NodeType} {i : Nat} (w : WfP ns i) (hi : i < ns.length) (h : -1 ≤ (rd ns (i : Int)).fParent ∧ (rd ns (i : Int)).fParent < (i : Int)) : WfP ns (i + 1) :=
  ⟨hi, fun j hj => by rcases Nat.lt_succ_iff_lt_or_eq.1 hj with hj | rfl
                      · exact w.2 j hj
                      · exact h⟩
theorem nodeErr_wf {t : Types} {i : Nat} (w : WfP t.fNodes i) (hi : i < t.fNodes.length) (h : nodeErr t i = 0) : WfP t.fNodes (i + 1) := by
  refine wf_succ w hi ?_
  unfold nodeErr at h
  cases h1 : isNameB (rd t.fNodes (i : Int)).fName
  · rw [h1] at h; simp at h
  cases h2 : anyN (fun j => (rd t.fNodes (j : Int)).fName == (rd t.fNodes (i : Int)).fName) 0 i
  · rw [h1, h2] at h
    simp only [Bool.not_true, cond_false] at h
    cases hp : decide ((rd t.fNodes (i : Int)).fParent < -1) || decide ((rd t.fNodes (i : Int)).fParent ≥ (i : Int)) with
    | true => rw [hp] at h; simp at h
    | false =>
      simp only [Bool.or_eq_false_iff, decide_eq_false_iff_not] at hp
      omega
  · rw [h1, h2] at h; simp at h
theorem types_node_eq {k : Nat} (hk : 200 ≤ k) {t : Types} (ht : FewT t) {i : Nat} (hi : i < t.fNodes.length) (w : WfP t.fNodes i) : types_node k t (i : Int) = some (nodeErr t i) := by
  have h20 := ht.nodes
  have h1 : (0 : Int) ≤ (i : Int) ∧ (i : Int) < (t.fNodes.length : Int) := by omega
  have hm := rd_mem h1.1 h1.2
  have h3 : (t.fNodes.take (i : Int).toNat).length = i := by simp; omega
  have h4 := token_IsName_eq (k := k) hk (rd t.fNodes (i : Int)).fName (by have := ht.nname _ hm; omega)
  have h5 := ContainsFunc_NodeType (k := k) (t.fNodes.take (i : Int).toNat) (fun x => types_node_1 k x (rd t.fNodes (i : Int))) _ (by omega) (by omega) (fun j _ => rfl)
  rw [h3, anyN_congr (q := fun j => (rd t.fNodes (j : Int)).fName == (rd t.fNodes (i : Int)).fName) (fun j _ hj => by rw [show (i : Int).toNat = i from rfl, rd_take hj])] at h5
  unfold types_node nodeErr
  rw [gd h1, h4, Option.bind_some]
  cases isNameB (rd t.fNodes (i : Int)).fName with
  | false => rfl
  | true =>
    rw [Bool.not_true, cond_false, cond_false, gd (by omega), h5, Option.bind_some]
    cases anyN (fun j => (rd t.fNodes (j : Int)).fName == (rd t.fNodes (i : Int)).fName) 0 i with
    | true => rfl
    | false =>
      simp only [cond_false, jn]
      cases hp1 : decide ((rd t.fNodes (i : Int)).fParent < -1) with
      | true => rfl
      | false =>
        cases hp2 : decide ((rd t.fNodes (i : Int)).fParent ≥ (i : Int)) with
        | true => rfl
        | false =>
          simp only [decide_eq_false_iff_not] at hp1 hp2
          have w' := wf_succ w hi (by omega)
          have ha := types_attrs_eq w' ht.nattr 100 k (i : Int) (by omega) (by omega) (by omega) (by omega) (by omega)
          have hall := attrsS_all w' ht.attr 100 (i : Int) (by omega)
          have hlen : (rd t.fNodes (i : Int)).fAttrs.length ≤ (attrsS t.fNodes 100 (i : Int)).length := by rw [attrsS_pos (by omega)]; simp
          rw [ha, Option.bind_some]
          generalize attrsS t.fNodes 100 (i : Int) = all at *
          simp only [Bool.or_false, cond_false]
          cases decide (((rd t.fNodes (i : Int)).fAttrs.length : Int) > 4) with
          | true => rfl
          | false =>
            cases h8 : decide ((all.length : Int) > 8) with
            | true => rfl
            | false =>
              simp at h8
              rw [cond_false, cond_false, gd (inR_of (by omega)), show ((all.length : Int) - ((rd t.fNodes (i : Int)).fAttrs.length : Int)) = ((all.length - (rd t.fNodes (i : Int)).fAttrs.length : Nat) : Int) by omega]
              refine loop1_eq (fun j => scan (attrErr all) j all.length) all.length (fun rec => ?_) (fun j hj rec ih => ?_) (by omega) (by omega)
              · simp [types_node.b0, scan_end]
              · rw [scan_step hj]
                have g2 : (0 : Int) ≤ (j : Int) ∧ (j : Int) < (all.length : Int) := by omega
                have h7 := types_attribute_eq (k := k) hk all j hj (by omega) (hall _ (rd_mem g2.1 g2.2))
                simp only [types_node.b0, show decide ((j : Int) < (all.length : Int)) = true by simp [hj], cond_true, gd g2, gd (show (0 : Int) ≤ (j : Int) ∧ (j : Int) ≤ (all.length : Int) by omega), h7, Option.bind_some, gd (inR_nat (n := j) (by omega)), ih]
                cases (attrErr all j != 0) <;> rfl
theorem ref04_node_eq {k : Nat} (hk : 200 ≤ k) {t : Types} (ht : FewT t) {i : Nat} (hi : i < t.fNodes.length) (w : WfP t.fNodes i) : ref04_node k t (i : Int) = some (nodeErr t i) := by
  have h20 := ht.nodes
  have h1 : (0 : Int) ≤ (i : Int) ∧ (i : Int) < (t.fNodes.length : Int) := by omega
  have hm := rd_mem h1.1 h1.2
  have h4 := ref01_IsName_eq (k := k) hk (rd t.fNodes (i : Int)).fName (by have := ht.nname _ hm; omega)
  unfold ref04_node nodeErr
  rw [gd h1, h4, Option.bind_some]
  cases isNameB (rd t.fNodes (i : Int)).fName with
  | false => rfl
  | true =>
    rw [Bool.not_true, cond_false, cond_false, show (0 : Int) = ((0 : Nat) : Int) from rfl]
    generalize hE : (bif decide ((rd t.fNodes (i : Int)).fParent < -1) || decide ((rd t.fNodes (i : Int)).fParent ≥ (i : Int)) then (6 : Int)
      else bif decide (((rd t.fNodes (i : Int)).fAttrs.length : Int) > 4) then 3
      else bif decide (((attrsS t.fNodes 100 (i : Int)).length : Int) > 8) then 3
      else scan (attrErr (attrsS t.fNodes 100 (i : Int))) ((attrsS t.fNodes 100 (i : Int)).length - (rd t.fNodes (i : Int)).fAttrs.length) (attrsS t.fNodes 100 (i : Int)).length) = E
    refine loop1_eq (fun j => bif anyN (fun j => (rd t.fNodes (j : Int)).fName == (rd t.fNodes (i : Int)).fName) j i then 5 else E) i (fun rec => ?_) (fun j hj rec ih => ?_) (Nat.zero_le _) (by omega)
    · rw [anyN_end, cond_false]
      simp only [ref04_node.b0, show decide ((i : Int) < (i : Int)) = false by simp, cond_false, gd (inR_of (x := (i : Int) - 1) (by omega)), ref04_in_eq, Option.bind_some, jn]
      subst hE
      by_cases hp1 : (rd t.fNodes (i : Int)).fParent < -1
      · rw [decide_eq_true hp1, decide_eq_false (show ¬ (rd t.fNodes (i : Int)).fParent ≥ -1 by omega)]; rfl
      by_cases hp2 : (rd t.fNodes (i : Int)).fParent ≥ (i : Int)
      · rw [decide_eq_true hp2, decide_eq_false hp1, decide_eq_false (show ¬ (rd t.fNodes (i : Int)).fParent ≤ (i : Int) - 1 by omega), Bool.and_false]; rfl
      have w' := wf_succ w hi (by omega)
      have ha := ref04_attrs_eq w' ht.nattr 100 k (i : Int) (by omega) (by omega) (by omega) (by omega)
      have hall := attrsS_all w' ht.attr 100 (i : Int) (by omega)
      have hlen : (rd t.fNodes (i : Int)).fAttrs.length ≤ (attrsS t.fNodes 100 (i : Int)).length := by rw [attrsS_pos (by omega)]; simp
      rw [ha, Option.bind_some, decide_eq_false hp1, decide_eq_false hp2, decide_eq_true (show (rd t.fNodes (i : Int)).fParent ≥ -1 by omega), decide_eq_true (show (rd t.fNodes (i : Int)).fParent ≤ (i : Int) - 1 by omega)]
      generalize attrsS t.fNodes 100 (i : Int) = all at *
      simp only [Bool.or_false, Bool.and_true, Bool.not_true, cond_false]
      cases decide (((rd t.fNodes (i : Int)).fAttrs.length : Int) > 4) with
      | true => rfl
      | false =>
        cases h8 : decide ((all.length : Int) > 8) with
        | true => rfl
        | false =>
          simp at h8
          rw [cond_false, cond_false, cond_false, cond_false, gd (inR_of (by omega)), show ((all.length : Int) - ((rd t.fNodes (i : Int)).fAttrs.length : Int)) = ((all.length - (rd t.fNodes (i : Int)).fAttrs.length : Nat) : Int) by omega]
          refine loop1_eq (fun j => scan (attrErr all) j all.length) all.length (fun rec => ?_) (fun j hj rec ih => ?_) (by omega) (by omega)
          · simp [ref04_node.b1, scan_end]
          · rw [scan_step hj]
            have g2 : (0 : Int) ≤ (j : Int) ∧ (j : Int) < (all.length : Int) := by omega
            have hfa := hall _ (rd_mem g2.1 g2.2)
            have h7 := ref04_attribute_eq (k := k) hk _ hfa
            have h8 := ref01_IsName_eq (k := k) hk (rd all (j : Int)).fName (by have := hfa.name; omega)
            have h9 : loop1 k (ref04_node.b2 k all (j : Int) rec) ((0 : Nat) : Int) = some (bif anyN (fun m => (rd all (m : Int)).fName == (rd all (j : Int)).fName) 0 j then 5 else bif attrOwn (rd all (j : Int)) != 0 then attrOwn (rd all (j : Int)) else scan (attrErr all) (j + 1) all.length) := by
              refine loop1_eq (fun m => bif anyN (fun m => (rd all (m : Int)).fName == (rd all (j : Int)).fName) m j then 5 else bif attrOwn (rd all (j : Int)) != 0 then attrOwn (rd all (j : Int)) else scan (attrErr all) (j + 1) all.length) j (fun rec1 => ?_) (fun m hm rec1 ih1 => ?_) (Nat.zero_le _) (by omega)
              · simp only [ref04_node.b2, anyN_end, cond_false, gd g2, h7, Option.bind_some, gd (inR_nat (n := j) (by omega)), ih, show decide ((j : Int) < (j : Int)) = false by simp]
                cases (attrOwn (rd all (j : Int)) != 0) <;> rfl
              · rw [anyN_step hm]
                simp only [ref04_node.b2, show decide ((m : Int) < (j : Int)) = true by simp [hm], cond_true, gd g2, gd (show (0 : Int) ≤ (m : Int) ∧ (m : Int) < (all.length : Int) by omega), gd (inR_nat (n := m) (by omega)), ih1]
                cases ((rd all (m : Int)).fName == (rd all (j : Int)).fName) <;> rfl
            have h10 : loop1 k (ref04_node.b2 k all (j : Int) rec) 0 = _ := h9
            simp only [ref04_node.b1, show decide ((j : Int) < (all.length : Int)) = true by simp [hj], cond_true, gd g2, h8, Option.bind_some, h10, attrErr]
            cases isNameB (rd all (j : Int)).fName <;> cases anyN (fun m => (rd all (m : Int)).fName == (rd all (j : Int)).fName) 0 j <;> rfl
    · rw [anyN_step hj]
      simp only [ref04_node.b0, show decide ((j : Int) < (i : Int)) = true by simp [hj], cond_true, gd (show (0 : Int) ≤ (j : Int) ∧ (j : Int) < (t.fNodes.length : Int) by omega), gd (inR_nat (n := j) (by omega)), ih]
      cases ((rd t.fNodes (j : Int)).fName == (rd t.fNodes (i : Int)).fName) <;> rfl
def boundB (a b : Int) : Bool := decide (a ≥ 0) && (decide (a ≤ 40) && (b == -1 || (decide (b ≥ a) && decide (b ≤ 40))))
theorem types_bounded_eq {k : Nat} (a b : Int) : types_bounded k a b = some (boundB a b) := by
  simp only [types_bounded, jn, boundB]
  cases decide (a ≥ 0) <;> cases decide (a ≤ 40) <;> cases (b == -1) <;> cases decide (b ≥ a) <;> rfl
theorem ref04_bound_eq {k : Nat} (a b : Int) : ref04_bound k a b = some (boundB a b) := by
  simp only [ref04_bound, jn, boundB, ref04_in_eq, Option.bind_some]
  cases decide (a ≥ 0) <;> cases decide (a ≤ 40) <;> cases (b == -1) <;> cases decide (b ≥ a) <;> rfl
def insB (a : Int) (t : Types) : Bool := decide (a ≥ 0) && decide (a < (t.fNodes.length : Int))
theorem types_edge_1_eq {k : Nat} (a : Int) (t : Types) : types_edge_1 k a t = some (insB a t) := by
  simp only [types_edge_1, jn, insB]
  cases decide (a ≥ 0) <;> rfl
theorem ins_eq (a : Int) (t : Types) : (decide (a ≥ 0) && decide (a ≤ (t.fNodes.length : Int) - 1)) = insB a t := by
  unfold insB; rw [Bool.eq_iff_iff]; simp; omega
def edgeErr (t : Types) (i : Nat) : Int :=
  bif !isNameB (rd t.fEdges (i : Int)).fName then 2
  else bif anyN (fun j => (rd t.fEdges (j : Int)).fName == (rd t.fEdges (i : Int)).fName) 0 i then 5
  else bif insB (rd t.fEdges (i : Int)).fFrom t && (insB (rd t.fEdges (i : Int)).fTo t && (boundB (rd t.fEdges (i : Int)).fOutLow (rd t.fEdges (i : Int)).fOutHigh && boundB (rd t.fEdges (i : Int)).fInLow (rd t.fEdges (i : Int)).fInHigh)) then 0 else 6
theorem types_edge_eq {k : Nat} (hk : 200 ≤ k) {t : Types} (ht : FewT t) {i : Nat} (hi : i < t.fEdges.length) : types_edge k t (i : Int) = some (edgeErr t i) := by
  have h20 := ht.edges
  have h1 : (0 : Int) ≤ (i : Int) ∧ (i : Int) < (t.fEdges.length : Int) := by omega
  have hm := rd_mem h1.1 h1.2
  have h3 : (t.fEdges.take (i : Int).toNat).length = i := by simp; omega
  have h4 := token_IsName_eq (k := k) hk (rd t.fEdges (i : Int)).fName (by have := ht.ename _ hm; omega)
  have h5 := ContainsFunc_EdgeType (k := k) (t.fEdges.take (i : Int).toNat) (fun x => types_edge_2 k x (rd t.fEdges (i : Int))) _ (by omega) (by omega) (fun j _ => rfl)
  rw [h3, anyN_congr (q := fun j => (rd t.fEdges (j : Int)).fName == (rd t.fEdges (i : Int)).fName) (fun j _ hj => by rw [show (i : Int).toNat = i from rfl, rd_take hj])] at h5
  unfold types_edge edgeErr
  simp only [gd h1, h4, Option.bind_some, gd (show (0 : Int) ≤ (i : Int) ∧ (i : Int) ≤ (t.fEdges.length : Int) by omega), h5, jn, types_edge_1_eq, types_bounded_eq]
  cases isNameB (rd t.fEdges (i : Int)).fName <;> cases anyN (fun j => (rd t.fEdges (j : Int)).fName == (rd t.fEdges (i : Int)).fName) 0 i <;> cases insB (rd t.fEdges (i : Int)).fFrom t <;> cases insB (rd t.fEdges (i : Int)).fTo t <;>
    cases boundB (rd t.fEdges (i : Int)).fOutLow (rd t.fEdges (i : Int)).fOutHigh <;> cases boundB (rd t.fEdges (i : Int)).fInLow (rd t.fEdges (i : Int)).fInHigh <;> rfl
theorem ref04_edge_eq {k : Nat} (hk : 200 ≤ k) {t : Types} (ht : FewT t) {i : Nat} (hi : i < t.fEdges.length) : ref04_edge k t (i : Int) = some (edgeErr t i) := by
  have h20 := ht.edges
  have h21 := ht.nodes
  have h1 : (0 : Int) ≤ (i : Int) ∧ (i : Int) < (t.fEdges.length : Int) := by omega
  have hm := rd_mem h1.1 h1.2
  have h4 := ref01_IsName_eq (k := k) hk (rd t.fEdges (i : Int)).fName (by have := ht.ename _ hm; omega)
  unfold ref04_edge edgeErr
  rw [gd h1, h4, Option.bind_some]
  cases isNameB (rd t.fEdges (i : Int)).fName with
  | false => rfl
  | true =>
    rw [Bool.not_true, cond_false, cond_false, show (0 : Int) = ((0 : Nat) : Int) from rfl]
    refine loop1_eq (fun j => bif anyN (fun j => (rd t.fEdges (j : Int)).fName == (rd t.fEdges (i : Int)).fName) j i then (5 : Int) else _) i (fun rec => ?_) (fun j hj rec ih => ?_) (Nat.zero_le _) (by omega)
    · rw [anyN_end, cond_false]
      simp only [ref04_edge.b0, show decide ((i : Int) < (i : Int)) = false by simp, cond_false, gd (inR_of (x := (t.fNodes.length : Int) - 1) (by omega)), ref04_in_eq, ins_eq, ref04_bound_eq, Option.bind_some, jn]
      cases insB (rd t.fEdges (i : Int)).fFrom t <;> cases insB (rd t.fEdges (i : Int)).fTo t <;>
        cases boundB (rd t.fEdges (i : Int)).fOutLow (rd t.fEdges (i : Int)).fOutHigh <;> cases boundB (rd t.fEdges (i : Int)).fInLow (rd t.fEdges (i : Int)).fInHigh <;> rfl
    · rw [anyN_step hj]
      simp only [ref04_edge.b0, show decide ((j : Int) < (i : Int)) = true by simp [hj], cond_true, gd (show (0 : Int) ≤ (j : Int) ∧ (j : Int) < (t.fEdges.length : Int) by omega), gd (inR_nat (n := j) (by omega)), ih]
      cases ((rd t.fEdges (j : Int)).fName == (rd t.fEdges (i : Int)).fName) <;> rfl
def valid2S (t : Types) (i : Nat) : Int := bif scan (nodeErr t) i t.fNodes.length != 0 then scan (nodeErr t) i t.fNodes.length else scan (edgeErr t) 0 t.fEdges.length
def validS (t : Types) : Int :=
  bif ((t.fNodes.length : Int) == 0) then 7 else bif decide ((t.fNodes.length : Int) > 12) || decide ((t.fEdges.length : Int) > 20) then 3 else valid2S t 0
theorem types_Valid_out {k : Nat} (hk : 200 ≤ k) {t : Types} (ht : FewT t) : Out (types_Valid k t) (fun r => r.2 = validS t) := by
  have h20 := ht.nodes
  have h30 := ht.edges
  unfold types_Valid validS; simp only [jn]
  cases ((t.fNodes.length : Int) == 0) with
  | true => exact ⟨_, rfl, rfl⟩
  | false =>
    cases decide ((t.fNodes.length : Int) > 12) with
    | true => exact ⟨_, rfl, rfl⟩
    | false =>
      cases decide ((t.fEdges.length : Int) > 20) with
      | true => exact ⟨_, rfl, rfl⟩
      | false =>
        refine loop1_out (I := fun i => WfP t.fNodes i) (P := fun i (r : Str × Int) => r.2 = valid2S t i) t.fNodes.length (fun w rec => ?_) (fun i hi w rec ih => ?_) k 0 (Nat.zero_le _) (by omega) ⟨Nat.zero_le _, fun j hj => by omega⟩
        · simp only [types_Valid.b0, show decide ((t.fNodes.length : Int) < (t.fNodes.length : Int)) = false by simp, cond_false, valid2S, scan_end, bne_self_eq_false]
          refine loop1_out (I := fun _ => True) (P := fun i (r : Str × Int) => r.2 = scan (edgeErr t) i t.fEdges.length) t.fEdges.length (fun _ rec => ?_) (fun i hi _ rec ih => ?_) k 0 (Nat.zero_le _) (by omega) trivial
          · simp only [types_Valid.b1, show decide ((t.fEdges.length : Int) < (t.fEdges.length : Int)) = false by simp, cond_false, scan_end]
            exact ⟨_, rfl, rfl⟩
          · rw [scan_step hi]
            simp only [types_Valid.b1, show decide ((i : Int) < (t.fEdges.length : Int)) = true by simp [hi], cond_true, gd (show (0 : Int) ≤ (i : Int) ∧ (i : Int) < (t.fEdges.length : Int) by omega), types_edge_eq hk ht hi, Option.bind_some, gd (inR_nat (n := i) (by omega))]
            cases (edgeErr t i != 0) with
            | true => exact ⟨_, rfl, rfl⟩
            | false => exact ih trivial
        · unfold valid2S
          rw [scan_step hi]
          simp only [types_Valid.b0, show decide ((i : Int) < (t.fNodes.length : Int)) = true by simp [hi], cond_true, gd (show (0 : Int) ≤ (i : Int) ∧ (i : Int) < (t.fNodes.length : Int) by omega), types_node_eq hk ht hi w, Option.bind_some, gd (inR_nat (n := i) (by omega))]
          cases hz : (nodeErr t i != 0) with
          | true => exact ⟨_, rfl, by rw [cond_true, hz]; rfl⟩
          | false => exact ih (nodeErr_wf w hi (by simpa using hz))
theorem ref04_Valid_out {k : Nat} (hk : 200 ≤ k) {t : Types} (ht : FewT t) : Out (ref04_Valid k t) (fun r => r.2 = validS t) := by
  have h20 := ht.nodes
  have h30 := ht.edges
  unfold ref04_Valid validS; simp only [jn]
  cases ((t.fNodes.length : Int) == 0) with
  | true => exact ⟨_, rfl, rfl⟩
  | false =>
    cases decide ((t.fNodes.length : Int) > 12) with
    | true => exact ⟨_, rfl, rfl⟩
    | false =>
      cases decide ((t.fEdges.length : Int) > 20) with
      | true => exact ⟨_, rfl, rfl⟩
      | false =>
        refine loop1_out (I := fun i => WfP t.fNodes i) (P := fun i (r : Str × Int) => r.2 = valid2S t i) t.fNodes.length (fun w rec => ?_) (fun i hi w rec ih => ?_) k 0 (Nat.zero_le _) (by omega) ⟨Nat.zero_le _, fun j hj => by omega⟩
        · simp only [ref04_Valid.b0, show decide ((t.fNodes.length : Int) < (t.fNodes.length : Int)) = false by simp, cond_false, valid2S, scan_end, bne_self_eq_false]
          refine loop1_out (I := fun _ => True) (P := fun i (r : Str × Int) => r.2 = scan (edgeErr t) i t.fEdges.length) t.fEdges.length (fun _ rec => ?_) (fun i hi _ rec ih => ?_) k 0 (Nat.zero_le _) (by omega) trivial
          · simp only [ref04_Valid.b1, show decide ((t.fEdges.length : Int) < (t.fEdges.length : Int)) = false by simp, cond_false, scan_end]
            exact ⟨_, rfl, rfl⟩
          · rw [scan_step hi]
            simp only [ref04_Valid.b1, show decide ((i : Int) < (t.fEdges.length : Int)) = true by simp [hi], cond_true, gd (show (0 : Int) ≤ (i : Int) ∧ (i : Int) < (t.fEdges.length : Int) by omega), ref04_edge_eq hk ht hi, Option.bind_some, gd (inR_nat (n := i) (by omega))]
            cases (edgeErr t i != 0) with
            | true => exact ⟨_, rfl, rfl⟩
            | false => exact ih trivial
        · unfold valid2S
          rw [scan_step hi]
          simp only [ref04_Valid.b0, show decide ((i : Int) < (t.fNodes.length : Int)) = true by simp [hi], cond_true, gd (show (0 : Int) ≤ (i : Int) ∧ (i : Int) < (t.fNodes.length : Int) by omega), ref04_node_eq hk ht hi w, Option.bind_some, gd (inR_nat (n := i) (by omega))]
          cases hz : (nodeErr t i != 0) with
          | true => exact ⟨_, rfl, by rw [cond_true, hz]; rfl⟩
          | false => exact ih (nodeErr_wf w hi (by simpa using hz))
theorem valid_wf {t : Types} (h : validS t = 0) : WfP t.fNodes t.fNodes.length ∧ t.fNodes.length ≤ 12 ∧ t.fEdges.length ≤ 20 := by
  unfold validS at h
  cases h0 : ((t.fNodes.length : Int) == 0) with
  | true => rw [h0] at h; simp at h
  | false =>
    cases h1 : decide ((t.fNodes.length : Int) > 12) || decide ((t.fEdges.length : Int) > 20) with
    | true => rw [h0, h1] at h; simp at h
    | false =>
      simp only [Bool.or_eq_false_iff, decide_eq_false_iff_not] at h1
      rw [h0] at h
      have h1' : (decide ((t.fNodes.length : Int) > 12) || decide ((t.fEdges.length : Int) > 20)) = false := by simp; omega
      rw [h1'] at h
      simp only [cond_false, valid2S] at h
      have hz : scan (nodeErr t) 0 t.fNodes.length = 0 := by
        cases hb : (scan (nodeErr t) 0 t.fNodes.length != 0) with
        | true => rw [hb] at h; exact h
        | false => simpa using hb
      refine ⟨?_, by omega, by omega⟩
      have : ∀ i, i ≤ t.fNodes.length → WfP t.fNodes i := by
        intro i
        induction i with
        | zero => intro _; exact ⟨Nat.zero_le _, fun j hj => by omega⟩
        | succ i ih => intro hi; exact nodeErr_wf (ih (by omega)) (by omega) (scan_zero hz i (Nat.zero_le _) (by omega))
      exact this _ (Nat.le_refl _)
def kindB (x : Int) : Bool := decide (x ≥ 0) && decide (x ≤ 99)
def ltB (x n : Int) : Bool := decide (x ≥ 0) && decide (x < n)
def rightB (e : Edge) (n : Int) : Bool := kindB e.fType && (ltB e.fFrom n && ltB e.fTo n)
theorem graph_within_eq {k : Nat} (a b : Int) : graph_within k a b = some (decide (a ≥ 0) && decide (a ≤ b)) := by
  simp only [graph_within, jn]; cases decide (a ≥ 0) <;> rfl
theorem graph_fits_eq {k : Nat} (e : Edge) {n : Int} (hn : inR (n - 1)) : graph_fits k e n = some (rightB e n) := by
  simp only [graph_fits, jn, graph_within_eq, Option.bind_some, gd hn, rightB, kindB, ltB]
  have h1 : decide (e.fFrom ≤ n - 1) = decide (e.fFrom < n) := by rw [Bool.eq_iff_iff]; simp; omega
  have h2 : decide (e.fTo ≤ n - 1) = decide (e.fTo < n) := by rw [Bool.eq_iff_iff]; simp; omega
  rw [h1, h2]
  cases (decide (e.fType ≥ 0) && decide (e.fType ≤ 99)) <;> cases (decide (e.fFrom ≥ 0) && decide (e.fFrom < n)) <;> rfl
theorem ref05_kind_eq {k : Nat} (a : Int) : ref05_kind k a = some (kindB a) := by
  simp only [ref05_kind, jn, kindB]; cases decide (a ≥ 0) <;> rfl
theorem ref05_right_eq {k : Nat} (e : Edge) (n : Int) : ref05_right k e n = some (rightB e n) := by
  simp only [ref05_right, jn, ref05_kind_eq, Option.bind_some, rightB, ltB]
  cases kindB e.fType <;> cases decide (e.fFrom ≥ 0) <;> cases decide (e.fFrom < n) <;> cases decide (e.fTo ≥ 0) <;> rfl
structure FewG (g : Graph) : Prop where
  nodes : g.fNodes.length ≤ 45
  edges : g.fEdges.length ≤ 90
def edges6 (g : Graph) (i : Nat) : Int := bif anyN (fun j => !rightB (rd g.fEdges (j : Int)) (g.fNodes.length : Int)) i g.fEdges.length then 6 else 0
def nodes6 (g : Graph) (i : Nat) : Int := bif anyN (fun j => !kindB (rd g.fNodes (j : Int))) i g.fNodes.length then 6 else edges6 g 0
def graphErr (g : Graph) : Int := bif decide ((g.fNodes.length : Int) > 40) || decide ((g.fEdges.length : Int) > 80) then 3 else nodes6 g 0
theorem graph_Valid_eq {k : Nat} (hk : 200 ≤ k) {g : Graph} (hg : FewG g) : graph_Valid k g = some (graphErr g) := by
  have h1 := hg.nodes; have h2 := hg.edges
  have h3 := ContainsFunc_int (k := k) g.fNodes (fun x => graph_Valid_1 k x) (fun j => !kindB (rd g.fNodes (j : Int))) (by omega) (by omega) (fun j _ => by simp only [graph_Valid_1, graph_within_eq, Option.bind_some, kindB])
  have h4 := ContainsFunc_Edge (k := k) g.fEdges (fun x => graph_Valid_2 k x g) (fun j => !rightB (rd g.fEdges (j : Int)) (g.fNodes.length : Int)) (by omega) (by omega)
    (fun j _ => by simp only [graph_Valid_2, graph_fits_eq _ (inR_of (x := (g.fNodes.length : Int) - 1) (by omega)), Option.bind_some])
  simp only [graph_Valid, jn, h3, h4, Option.bind_some, graphErr, nodes6, edges6]
  cases decide ((g.fNodes.length : Int) > 40) <;> cases decide ((g.fEdges.length : Int) > 80) <;> cases anyN (fun j => !kindB (rd g.fNodes (j : Int))) 0 g.fNodes.length <;> cases anyN (fun j => !rightB (rd g.fEdges (j : Int)) (g.fNodes.length : Int)) 0 g.fEdges.length <;> rfl
theorem ref05_Valid_eq {k : Nat} (hk : 200 ≤ k) {g : Graph} (hg : FewG g) : ref05_Valid k g = some (graphErr g) := by
  have h1 := hg.nodes; have h2 := hg.edges
  have h3 : loop1 k (ref05_Valid.b0 k g) ((0 : Nat) : Int) = some (nodes6 g 0) := by
    refine loop1_eq (fun i => nodes6 g i) g.fNodes.length (fun rec => ?_) (fun i hi rec ih => ?_) (Nat.zero_le _) (by omega)
    · simp only [ref05_Valid.b0, show decide ((g.fNodes.length : Int) < (g.fNodes.length : Int)) = false by simp, cond_false, nodes6, anyN_end]
      have h4 : loop1 k (ref05_Valid.b1 k g) ((0 : Nat) : Int) = some (edges6 g 0) := by
        refine loop1_eq (fun i => edges6 g i) g.fEdges.length (fun rec => ?_) (fun i hi rec ih => ?_) (Nat.zero_le _) (by omega)
        · simp only [ref05_Valid.b1, show decide ((g.fEdges.length : Int) < (g.fEdges.length : Int)) = false by simp, cond_false, edges6, anyN_end]
        · simp only [edges6] at ih
          simp only [edges6, anyN_step hi, ref05_Valid.b1, show decide ((i : Int) < (g.fEdges.length : Int)) = true by simp [hi], cond_true, gd (show (0 : Int) ≤ (i : Int) ∧ (i : Int) < (g.fEdges.length : Int) by omega), ref05_right_eq, Option.bind_some, gd (inR_nat (n := i) (by omega)), ih]
          cases rightB (rd g.fEdges (i : Int)) (g.fNodes.length : Int) with
          | true => simp only [Bool.not_true, cond_false, Bool.false_or]
          | false => simp only [Bool.not_false, cond_true, Bool.true_or]
      exact h4
    · simp only [nodes6] at ih
      simp only [nodes6, anyN_step hi, ref05_Valid.b0, show decide ((i : Int) < (g.fNodes.length : Int)) = true by simp [hi], cond_true, gd (show (0 : Int) ≤ (i : Int) ∧ (i : Int) < (g.fNodes.length : Int) by omega), ref05_kind_eq, Option.bind_some, gd (inR_nat (n := i) (by omega)), ih]
      cases kindB (rd g.fNodes (i : Int)) with
      | true => simp only [Bool.not_true, cond_false, Bool.false_or]
      | false => simp only [Bool.not_false, cond_true, Bool.true_or]
  have h4 : loop1 k (ref05_Valid.b0 k g) 0 = some (nodes6 g 0) := h3
  simp only [ref05_Valid, jn, h4, graphErr]
  cases decide ((g.fNodes.length : Int) > 40) <;> cases decide ((g.fEdges.length : Int) > 80) <;> rfl
structure GoodG (g : Graph) : Prop where
  nodes : g.fNodes.length ≤ 40
  edges : g.fEdges.length ≤ 80
  kind : ∀ j : Nat, j < g.fNodes.length → 0 ≤ rd g.fNodes (j : Int) ∧ rd g.fNodes (j : Int) ≤ 99
  right : ∀ j : Nat, j < g.fEdges.length → 0 ≤ (rd g.fEdges (j : Int)).fType ∧ (0 ≤ (rd g.fEdges (j : Int)).fFrom ∧ (rd g.fEdges (j : Int)).fFrom < (g.fNodes.length : Int)) ∧ (0 ≤ (rd g.fEdges (j : Int)).fTo ∧ (rd g.fEdges (j : Int)).fTo < (g.fNodes.length : Int))
theorem anyN_false {p : Nat → Bool} {i n : Nat} (h : anyN p i n = false) : ∀ j, i ≤ j → j < n → p j = false := fun j h1 h2 => by
  cases hp : p j with
  | false => rfl
  | true => rw [anyN_iff.2 ⟨j, h1, h2, hp⟩] at h; cases h
theorem anyN_none {p : Nat → Bool} {i n : Nat} (h : ∀ j, i ≤ j → j < n → p j = false) : anyN p i n = false := by
  cases hp : anyN p i n with
  | false => rfl
  | true => obtain ⟨j, h1, h2, h3⟩ := anyN_iff.1 hp; rw [h j h1 h2] at h3; cases h3
theorem graphErr_good {g : Graph} (h : graphErr g = 0) : GoodG g := by
  unfold graphErr nodes6 edges6 at h
  cases h0 : decide ((g.fNodes.length : Int) > 40) || decide ((g.fEdges.length : Int) > 80) with
  | true => rw [h0] at h; simp at h
  | false =>
    rw [h0] at h
    cases h1 : anyN (fun j => !kindB (rd g.fNodes (j : Int))) 0 g.fNodes.length with
    | true => rw [h1] at h; simp at h
    | false =>
      rw [h1] at h
      cases h2 : anyN (fun j => !rightB (rd g.fEdges (j : Int)) (g.fNodes.length : Int)) 0 g.fEdges.length with
      | true => rw [h2] at h; simp at h
      | false =>
        simp only [Bool.or_eq_false_iff, decide_eq_false_iff_not] at h0
        refine ⟨by omega, by omega, fun j hj => ?_, fun j hj => ?_⟩
        · have := anyN_false h1 j (Nat.zero_le _) hj
          simp only [kindB, Bool.not_eq_false', Bool.and_eq_true, decide_eq_true_eq] at this
          omega
        · have := anyN_false h2 j (Nat.zero_le _) hj
          simp only [rightB, kindB, ltB, Bool.not_eq_false', Bool.and_eq_true, decide_eq_true_eq] at this
          omega
def typedB (t : Types) (g : Graph) : Bool := !anyN (fun j => decide (rd g.fNodes (j : Int) ≥ (t.fNodes.length : Int))) 0 g.fNodes.length && !anyN (fun j => decide ((rd g.fEdges (j : Int)).fType ≥ (t.fEdges.length : Int))) 0 g.fEdges.length
def typed1 (t : Types) (g : Graph) (i : Nat) : Bool := !anyN (fun j => decide ((rd g.fEdges (j : Int)).fType < 0) || decide ((rd g.fEdges (j : Int)).fType ≥ (t.fEdges.length : Int))) i g.fEdges.length
def typed0 (t : Types) (g : Graph) (i : Nat) : Bool := !anyN (fun j => decide (rd g.fNodes (j : Int) < 0) || decide (rd g.fNodes (j : Int) ≥ (t.fNodes.length : Int))) i g.fNodes.length && typed1 t g 0
theorem ref17_Typed_eq {k : Nat} (hk : 200 ≤ k) (t : Types) {g : Graph} (hg : GoodG g) : ref17_Typed k t g = some (typedB t g) := by
  have h1 := hg.nodes; have h2 := hg.edges
  have h3 : loop1 k (ref17_Typed.b0 k t g) ((0 : Nat) : Int) = some (typed0 t g 0) := by
    refine loop1_eq (fun i => typed0 t g i) g.fNodes.length (fun rec => ?_) (fun i hi rec ih => ?_) (Nat.zero_le _) (by omega)
    · simp only [ref17_Typed.b0, show decide ((g.fNodes.length : Int) < (g.fNodes.length : Int)) = false by simp, cond_false, typed0, anyN_end, Bool.not_false, Bool.true_and]
      have h4 : loop1 k (ref17_Typed.b1 t g) ((0 : Nat) : Int) = some (typed1 t g 0) := by
        refine loop1_eq (fun i => typed1 t g i) g.fEdges.length (fun rec => ?_) (fun i hi rec ih => ?_) (Nat.zero_le _) (by omega)
        · simp only [ref17_Typed.b1, show decide ((g.fEdges.length : Int) < (g.fEdges.length : Int)) = false by simp, cond_false, typed1, anyN_end, Bool.not_false]
        · simp only [typed1] at ih
          simp only [typed1, anyN_step hi, ref17_Typed.b1, jn, show decide ((i : Int) < (g.fEdges.length : Int)) = true by simp [hi], cond_true, gd (show (0 : Int) ≤ (i : Int) ∧ (i : Int) < (g.fEdges.length : Int) by omega), gd (inR_nat (n := i) (by omega)), ih]
          cases decide ((rd g.fEdges (i : Int)).fType < 0) <;> cases decide ((rd g.fEdges (i : Int)).fType ≥ (t.fEdges.length : Int)) <;> simp
      exact h4
    · simp only [typed0] at ih
      simp only [typed0, anyN_step hi, ref17_Typed.b0, jn, show decide ((i : Int) < (g.fNodes.length : Int)) = true by simp [hi], cond_true, gd (show (0 : Int) ≤ (i : Int) ∧ (i : Int) < (g.fNodes.length : Int) by omega), gd (inR_nat (n := i) (by omega)), ih]
      cases decide (rd g.fNodes (i : Int) < 0) <;> cases decide (rd g.fNodes (i : Int) ≥ (t.fNodes.length : Int)) <;> simp
  have h5 : ref17_Typed k t g = some (typed0 t g 0) := h3
  rw [h5]; unfold typed0 typed1 typedB
  rw [anyN_congr (p := fun j => decide (rd g.fNodes (j : Int) < 0) || decide (rd g.fNodes (j : Int) ≥ (t.fNodes.length : Int))) (q := fun j => decide (rd g.fNodes (j : Int) ≥ (t.fNodes.length : Int))) (fun j _ hj => by
      rw [decide_eq_false (show ¬ rd g.fNodes (j : Int) < 0 by have := hg.kind j hj; omega), Bool.false_or]),
    anyN_congr (p := fun j => decide ((rd g.fEdges (j : Int)).fType < 0) || decide ((rd g.fEdges (j : Int)).fType ≥ (t.fEdges.length : Int))) (q := fun j => decide ((rd g.fEdges (j : Int)).fType ≥ (t.fEdges.length : Int))) (fun j _ hj => by
      rw [decide_eq_false (show ¬ (rd g.fEdges (j : Int)).fType < 0 by have := hg.right j hj; omega), Bool.false_or])]
theorem typedB_node {t : Types} {g : Graph} (h : typedB t g = true) {j : Nat} (hj : j < g.fNodes.length) : rd g.fNodes (j : Int) < (t.fNodes.length : Int) := by
  simp only [typedB, Bool.and_eq_true, Bool.not_eq_true'] at h
  have := anyN_false h.1 j (Nat.zero_le _) hj
  simp only [decide_eq_false_iff_not] at this; omega
def givenS (t : Types) (p g : Graph) : Int :=
  bif validS t != 0 then validS t else bif graphErr p != 0 then graphErr p else bif graphErr g != 0 then graphErr g else bif typedB t p && typedB t g then 0 else 13
structure Small (t : Types) (p g : Graph) : Prop where
  t : FewT t
  p : FewG p
  g : FewG g
structure Fine (t : Types) (p g : Graph) : Prop where
  ok : validS t = 0
  gp : GoodG p
  gg : GoodG g
  tp : typedB t p = true
  tg : typedB t g = true
theorem rd_cover {α : Type} [Inhabited α] {l : List α} {P : α → Prop} (h : ∀ j : Nat, j < l.length → P (rd l (j : Int))) : ∀ x ∈ l, P x := by
  intro x hx
  obtain ⟨i, hi, rfl⟩ := List.mem_iff_getElem.1 hx
  have := h i hi
  simpa [rd, List.getD, List.getElem?_eq_getElem hi] using this
structure FewN (n : NodeType) : Prop where
  name : n.fName.length ≤ 40
  attrs : n.fAttrs.length ≤ 30
  attr : ∀ j : Nat, j < n.fAttrs.length → FewA (rd n.fAttrs (j : Int))
theorem ref04_Few_out {k : Nat} (hk : 200 ≤ k) {t : Types} (hA : ∀ n ∈ t.fNodes, n.fAttrs.length ≤ 140737488351232) : Out (ref04_Few k t) (fun b => b = true → FewT t) := by
  unfold ref04_Few; simp only [jn]
  cases h0 : decide ((t.fNodes.length : Int) > 20) with
  | true => exact ⟨false, rfl, fun h => by cases h⟩
  | false =>
    cases h1 : decide ((t.fEdges.length : Int) > 30) with
    | true => exact ⟨false, rfl, fun h => by cases h⟩
    | false =>
      simp at h0 h1
      rw [cond_false, cond_false]
      refine (loop2_out (S := Int) (P := fun _ i b => b = true → (∀ j : Nat, i ≤ j → j < t.fNodes.length → FewN (rd t.fNodes (j : Int))) ∧ (∀ j : Nat, j < t.fEdges.length → (rd t.fEdges (j : Int)).fName.length ≤ 40))
        (I := fun s _ => 0 ≤ s ∧ s ≤ 30) t.fNodes.length (fun s hs rec => ?_) (fun s i hi hs rec ih => ?_) k 0 0 (Nat.zero_le _) (by omega) (by omega)).mono fun b hb e => ?_
      · simp only [ref04_Few.b0, show decide ((t.fNodes.length : Int) < (t.fNodes.length : Int)) = false by simp, cond_false]
        refine (loop1_out (I := fun _ => True) (P := fun i b => b = true → ∀ j : Nat, i ≤ j → j < t.fEdges.length → (rd t.fEdges (j : Int)).fName.length ≤ 40) t.fEdges.length (fun _ rec => ?_) (fun i hi _ rec ih => ?_) k 0 (Nat.zero_le _) (by omega) trivial).mono fun b hb e => ?_
        · simp only [ref04_Few.b3, show decide ((t.fEdges.length : Int) < (t.fEdges.length : Int)) = false by simp, cond_false]
          exact ⟨_, rfl, fun _ j h1 h2 => by omega⟩
        · rw [ref04_Few.b3, show decide ((i : Int) < (t.fEdges.length : Int)) = true by simp [hi], cond_true, gd (show (0 : Int) ≤ (i : Int) ∧ (i : Int) < (t.fEdges.length : Int) by omega), gd (inR_nat (n := i) (by omega))]
          cases hc : decide (((rd t.fEdges (i : Int)).fName.length : Int) > 40) with
          | true => exact ⟨false, rfl, fun h => by cases h⟩
          | false =>
            simp at hc
            refine (ih trivial).mono fun b hb e j h1 h2 => ?_
            rcases Nat.eq_or_lt_of_le h1 with rfl | h3
            · omega
            · exact hb e j h3 h2
        · exact ⟨fun j h1 h2 => by omega, fun j hj => hb e j (Nat.zero_le _) hj⟩
      · have hal := hA _ (rd_mem (l := t.fNodes) (x := (i : Int)) (by omega) (by omega))
        have g1 : (0 : Int) ≤ (i : Int) ∧ (i : Int) < (t.fNodes.length : Int) := by omega
        simp only [ref04_Few.b0, jn]
        rw [show decide ((i : Int) < (t.fNodes.length : Int)) = true by simp [hi], cond_true, gd g1, gd g1, gd (inR_of (x := s + ((rd t.fNodes (i : Int)).fAttrs.length : Int)) (by omega))]
        cases hc : decide (s + ((rd t.fNodes (i : Int)).fAttrs.length : Int) > 30) with
        | true => exact ⟨false, rfl, fun h => by cases h⟩
        | false =>
          cases hd : decide (((rd t.fNodes (i : Int)).fName.length : Int) > 40) with
          | true => exact ⟨false, rfl, fun h => by cases h⟩
          | false =>
            simp at hc hd
            rw [cond_false, cond_false]
            refine (loop1_out (I := fun _ => True) (P := fun a b => b = true → (∀ j : Nat, a ≤ j → j < (rd t.fNodes (i : Int)).fAttrs.length → FewA (rd (rd t.fNodes (i : Int)).fAttrs (j : Int))) ∧ (∀ j : Nat, i + 1 ≤ j → j < t.fNodes.length → FewN (rd t.fNodes (j : Int))) ∧ (∀ j : Nat, j < t.fEdges.length → (rd t.fEdges (j : Int)).fName.length ≤ 40))
              (rd t.fNodes (i : Int)).fAttrs.length (fun _ rec1 => ?_) (fun a ha _ rec1 ih1 => ?_) k 0 (Nat.zero_le _) (by omega) trivial).mono fun b hb e => ?_
            · simp only [ref04_Few.b1, gd g1, show decide ((((rd t.fNodes (i : Int)).fAttrs.length : Nat) : Int) < ((rd t.fNodes (i : Int)).fAttrs.length : Int)) = false by simp, cond_false, gd (inR_nat (n := i) (by omega))]
              exact (ih _ (by omega)).mono fun b hb e => ⟨fun j h1 h2 => by omega, hb e⟩
            · have g2 : (0 : Int) ≤ (a : Int) ∧ (a : Int) < ((rd t.fNodes (i : Int)).fAttrs.length : Int) := by omega
              simp only [ref04_Few.b1, jn]
              rw [gd g1, gd g1, gd g2, show decide ((a : Int) < ((rd t.fNodes (i : Int)).fAttrs.length : Int)) = true by simp [ha], cond_true]
              cases he : decide (((rd (rd t.fNodes (i : Int)).fAttrs (a : Int)).fName.length : Int) > 40) with
              | true => exact ⟨false, rfl, fun h => by cases h⟩
              | false =>
                cases hf : decide (((rd (rd t.fNodes (i : Int)).fAttrs (a : Int)).fNames.length : Int) > 25) with
                | true => exact ⟨false, rfl, fun h => by cases h⟩
                | false =>
                  simp at he hf
                  rw [cond_false, cond_false]
                  refine (loop1_out (I := fun _ => True) (P := fun m b => b = true → (∀ j : Nat, m ≤ j → j < (rd (rd t.fNodes (i : Int)).fAttrs (a : Int)).fNames.length → (rd (rd (rd t.fNodes (i : Int)).fAttrs (a : Int)).fNames (j : Int)).length ≤ 40) ∧ (∀ j : Nat, a + 1 ≤ j → j < (rd t.fNodes (i : Int)).fAttrs.length → FewA (rd (rd t.fNodes (i : Int)).fAttrs (j : Int))) ∧ (∀ j : Nat, i + 1 ≤ j → j < t.fNodes.length → FewN (rd t.fNodes (j : Int))) ∧ (∀ j : Nat, j < t.fEdges.length → (rd t.fEdges (j : Int)).fName.length ≤ 40))
                    (rd (rd t.fNodes (i : Int)).fAttrs (a : Int)).fNames.length (fun _ rec2 => ?_) (fun m hm _ rec2 ih2 => ?_) k 0 (Nat.zero_le _) (by omega) trivial).mono fun b hb e => ?_
                  · simp only [ref04_Few.b2, show decide ((((rd (rd t.fNodes (i : Int)).fAttrs (a : Int)).fNames.length : Nat) : Int) < ((rd (rd t.fNodes (i : Int)).fAttrs (a : Int)).fNames.length : Int)) = false by simp, cond_false, gd (inR_nat (n := a) (by omega))]
                    exact (ih1 trivial).mono fun b hb e => ⟨fun j h1 h2 => by omega, hb e⟩
                  · rw [ref04_Few.b2, show decide ((m : Int) < ((rd (rd t.fNodes (i : Int)).fAttrs (a : Int)).fNames.length : Int)) = true by simp [hm], cond_true, gd (show (0 : Int) ≤ (m : Int) ∧ (m : Int) < ((rd (rd t.fNodes (i : Int)).fAttrs (a : Int)).fNames.length : Int) by omega), gd (inR_nat (n := m) (by omega))]
                    cases hc : decide (((rd (rd (rd t.fNodes (i : Int)).fAttrs (a : Int)).fNames (m : Int)).length : Int) > 40) with
                    | true => exact ⟨false, rfl, fun h => by cases h⟩
                    | false =>
                      simp at hc
                      refine (ih2 trivial).mono fun b hb e => ⟨fun j h1 h2 => ?_, (hb e).2⟩
                      rcases Nat.eq_or_lt_of_le h1 with rfl | h3
                      · omega
                      · exact (hb e).1 j h3 h2
                  · refine ⟨fun j h1 h2 => ?_, (hb e).2.2⟩
                    rcases Nat.eq_or_lt_of_le h1 with rfl | h3
                    · exact ⟨by omega, by omega, rd_cover fun j hj => (hb e).1 j (Nat.zero_le _) hj⟩
                    · exact (hb e).2.1 j h3 h2
            · refine ⟨fun j h1 h2 => ?_, (hb e).2.2⟩
              rcases Nat.eq_or_lt_of_le h1 with rfl | h3
              · exact ⟨by omega, by omega, fun j hj => (hb e).1 j (Nat.zero_le _) hj⟩
              · exact (hb e).2.1 j h3 h2
      · obtain ⟨hn, he⟩ := hb e
        have hn' : ∀ x ∈ t.fNodes, FewN x := rd_cover fun j hj => hn j (Nat.zero_le _) hj
        exact ⟨by omega, by omega, fun n h => (hn' n h).name, fun n h => (hn' n h).attrs, fun n h => rd_cover (hn' n h).attr, rd_cover he⟩
theorem ref05_Few_eq {k : Nat} (g : Graph) : ref05_Few k g = some (decide ((g.fNodes.length : Int) ≤ 45) && decide ((g.fEdges.length : Int) ≤ 90)) := by
  simp only [ref05_Few, jn]; cases decide ((g.fNodes.length : Int) ≤ 45) <;> rfl
structure LightP (t : Types) (p g : Graph) : Prop where
  small : Small t p g
  few : givenS t p g = 0 → p.fNodes.length + p.fEdges.length ≤ 6 ∧ g.fNodes.length ≤ 8 ∧ g.fEdges.length ≤ 12
def chain (ns : List NodeType) : Nat → Int → List Int
  | 0, _ => []
  | d + 1, a => bif decide (a < 0) then [] else a :: chain ns d (rd ns a).fParent
def isB (ns : List NodeType) (a b : Int) : Bool := decide (b ∈ chain ns 100 a)
theorem types_given_eq {k : Nat} (hk : 200 ≤ k) {t : Types} (ht : FewT t) (hv : validS t = 0) {a : Int} (h0 : 0 ≤ a) (ha : a < (t.fNodes.length : Int)) : types_given k t [a] = some 0 := by
  obtain ⟨r, e, hr⟩ := types_Valid_out hk ht
  unfold types_given
  rw [e, Option.bind_some, hr, hv]
  rw [ContainsFunc_int (k := k) [a] (fun x => types_given_1 k x t) (fun j => decide (rd [a] (j : Int) < 0) || decide (rd [a] (j : Int) ≥ (t.fNodes.length : Int))) (by simp; omega) (by simp) (fun j _ => by
    simp only [types_given_1, jn]; cases decide (rd [a] (j : Int) < 0) <;> rfl)]
  rw [anyN_none fun j _ hj => ?_]
  · rfl
  · have : j = 0 := by simp at hj; omega
    subst this
    have e : rd [a] ((0 : Nat) : Int) = a := rfl
    rw [e, decide_eq_false (by omega), decide_eq_false (by omega)]; rfl
structure Table (ns : List NodeType) (M : List (List Bool)) (i : Nat) : Prop where
  len : M.length = i
  row : ∀ a : Nat, a < i → (rd M (a : Int)).length = ns.length
  at' : ∀ a : Nat, a < i → ∀ b : Nat, b < ns.length → rd (rd M (a : Int)) (b : Int) = isB ns (b : Int) (a : Int)
structure InstP (p g : Graph) (m : Morphism) (r : Graph × Int) : Prop where
  ok : r.2 = 0
  edges : r.1.fEdges = p.fEdges
  len : r.1.fNodes.length = m.fNodes.length
  at' : ∀ j : Nat, j < m.fNodes.length → rd r.1.fNodes (j : Int) = rd g.fNodes (rd m.fNodes (j : Int))
theorem SameInts_eq {k : Nat} {a b : List Int} (hk : a.length < k) (ha : a.length ≤ 1000000) (hl : a.length = b.length) (h : ∀ j : Nat, j < a.length → rd a (j : Int) = rd b (j : Int)) : ref05_SameInts k a b = some true := by
  have e : ((a.length : Int) != (b.length : Int)) = false := by simp [hl]
  unfold ref05_SameInts
  rw [e, cond_false]
  refine loop1_eq (fun _ => true) a.length (fun rec => ?_) (fun i hi rec ih => ?_) (Nat.zero_le _) (by omega)
  · rw [ref05_SameInts.b0, show decide ((a.length : Int) < (a.length : Int)) = false by simp, cond_false]
  · rw [ref05_SameInts.b0, show decide ((i : Int) < (a.length : Int)) = true by simp [hi], cond_true, gd (by omega), gd (by omega), h i hi, bne_self_eq_false, cond_false, gd (inR_nat (n := i) (by omega)), ih]
structure Pb where
  p : Graph
  g : Graph
  ns : List NodeType
  pn : Int → Int
  pe : Int → Int
  inj : Bool
def eqE (q : Pb) (l : List Int) (i k : Int) : Bool :=
  ((rd q.p.fEdges i).fType == (rd q.g.fEdges k).fType) && (((rd q.g.fEdges k).fFrom == rd l (rd q.p.fEdges i).fFrom) && ((rd q.g.fEdges k).fTo == rd l (rd q.p.fEdges i).fTo))
def cut (N : Nat) (o L : List Morphism) : List Morphism := (o ++ L).take N
def pO (o : Option (List Int)) (i : Int) : Int := match o with
  | none => -1
  | some l => rd l i
structure Ctx (q : Pb) : Prop where
  gp : GoodG q.p
  gg : GoodG q.g
  tp : ∀ j : Nat, j < q.p.fNodes.length → rd q.p.fNodes (j : Int) < (q.ns.length : Int)
  tg : ∀ j : Nat, j < q.g.fNodes.length → rd q.g.fNodes (j : Int) < (q.ns.length : Int)
  wf : WfP q.ns q.ns.length
  few : q.ns.length ≤ 50
structure FinP (q : Pb) (M : List (List Bool)) (part : OMorphism) : Prop where
  tab : Table q.ns M q.ns.length
  pn : ∀ i : Nat, i < q.p.fNodes.length → pO part.fNodes (i : Int) = q.pn (i : Int) ∧ ∀ l, part.fNodes = some l → (i : Int) < (l.length : Int)
  pe : ∀ i : Nat, i < q.p.fEdges.length → pO part.fEdges (i : Int) = q.pe (i : Int) ∧ ∀ l, part.fEdges = some l → (i : Int) < (l.length : Int)
theorem FinP.table {q : Pb} {M : List (List Bool)} {part : OMorphism} (f : FinP q M part) {a b : Int} (ha : 0 ≤ a ∧ a < (q.ns.length : Int)) (hb : 0 ≤ b ∧ b < (q.ns.length : Int)) :
    a < (M.length : Int) ∧ b < ((rd M a).length : Int) ∧ rd (rd M a) b = isB q.ns b a := by
  have h1 := f.tab.len
  have h2 := f.tab.row a.toNat (by omega)
  have h3 := f.tab.at' a.toNat (by omega) b.toNat (by omega)
  rw [Int.toNat_of_nonneg ha.1] at h2 h3
  rw [Int.toNat_of_nonneg hb.1] at h3
  exact ⟨by omega, by omega, h3⟩
structure RefP (q : Pb) (t : Types) (part : Morphism) : Prop where
  ns : t.fNodes = q.ns
  ln : part.fNodes.length = q.p.fNodes.length
  le : part.fEdges.length = q.p.fEdges.length
  pn : ∀ i : Nat, i < q.p.fNodes.length → rd part.fNodes (i : Int) = q.pn (i : Int)
  pe : ∀ i : Nat, i < q.p.fEdges.length → rd part.fEdges (i : Int) = q.pe (i : Int)
structure AllNeg (p : Graph) (m : Morphism) : Prop where
  ln : m.fNodes.length = p.fNodes.length
  le : m.fEdges.length = p.fEdges.length
  n : ∀ i : Nat, i < p.fNodes.length → rd m.fNodes (i : Int) = -1
  e : ∀ i : Nat, i < p.fEdges.length → rd m.fEdges (i : Int) = -1
structure EdgesOk (q : Pb) (l e : List Int) : Prop where
  fit : ∀ i : Nat, i < e.length → 0 ≤ rd e (i : Int) ∧ rd e (i : Int) < (q.g.fEdges.length : Int) ∧ eqE q l (i : Int) (rd e (i : Int)) = true
  inj : q.inj = true → e.Nodup
structure NodesOk (q : Pb) (l : List Int) : Prop where
  fit : ∀ i : Nat, i < l.length → 0 ≤ rd l (i : Int) ∧ rd l (i : Int) < (q.g.fNodes.length : Int) ∧ isB q.ns (rd q.g.fNodes (rd l (i : Int))) (rd q.p.fNodes (i : Int)) = true
  inj : q.inj = true → l.Nodup
theorem set_rd {α : Type} [Inhabited α] {l : List α} {i : Nat} (hi : i < l.length) : l.set i (rd l (i : Int)) = l := by
  have : rd l (i : Int) = l[i] := by simp [rd, List.getD, List.getElem?_eq_getElem hi]
  rw [this, List.set_getElem_self]
theorem take_rdA {α : Type} [Inhabited α] {l : List α} {i : Nat} (hi : i < l.length) : l.take (i + 1) = l.take i ++ [rd l (i : Int)] := by
  have : rd l (i : Int) = l[i] := by simp [rd, List.getD, List.getElem?_eq_getElem hi]
  rw [this, List.take_succ_eq_append_getElem hi]
theorem Attrs_eq {k : Nat} (hk : 1000 ≤ k) {t : Types} (ht : FewT t) (hv : validS t = 0) {a : Int} (h0 : 0 ≤ a) (ha : a < (t.fNodes.length : Int)) : types_Attrs k t a = some (attrsS t.fNodes t.fNodes.length a, 0) := by
  obtain ⟨w, h12, _⟩ := valid_wf hv
  have hl := attrsS_len w (fun x hx => ht.nattr x hx) t.fNodes.length a ha
  have hA := attrsS_all (G := FewA) w (fun x hx => ht.attr x hx) t.fNodes.length a ha
  unfold types_Attrs
  rw [types_given_eq (by omega) ht hv h0 ha, Option.bind_some, bne_self_eq_false, cond_false, types_attrs_eq w (fun x hx => ht.nattr x hx) t.fNodes.length k a (by omega) (by omega) h0 ha ha, Option.bind_some]
  generalize attrsS t.fNodes t.fNodes.length a = l at *
  refine Out.eq (loop2_out (S := List Attr) (P := fun _ _ r => r = (l, 0)) (I := fun s _ => s = l) l.length (fun s hs rec => ?_) (fun s i hi hs rec ih => ?_) k 0 l (Nat.zero_le _) (by omega) rfl)
  · rw [types_Attrs.b0, decide_eq_false (show ¬ (l.length : Int) < (l.length : Int) by omega), cond_false, hs]; exact ⟨_, rfl, rfl⟩
  · subst hs
    have hf := (hA _ (rd_mem (l := s) (x := (i : Int)) (by omega) (by omega))).names
    rw [types_Attrs.b0, decide_eq_true (show (i : Int) < (s.length : Int) by omega), cond_true, gd ⟨by omega, by omega⟩]
    unfold slices_Clone_string
    rw [gd (show (rd s (i : Int)).fNames.length ≤ lim by unfold lim; omega), Option.bind_some, gd ⟨by omega, by omega⟩, gd (inR_nat (n := i) (by omega))]
    exact ih _ (set_rd hi)
theorem ref04_given_eq {k : Nat} (hk : 200 ≤ k) {t : Types} (ht : FewT t) (hv : validS t = 0) {a b : Int} (h0 : 0 ≤ a) (ha : a < (t.fNodes.length : Int)) (g0 : 0 ≤ b) (gb : b < (t.fNodes.length : Int)) : ref04_given k t a b = some 0 := by
  obtain ⟨r, e, hr⟩ := ref04_Valid_out hk ht
  have h20 := ht.nodes
  unfold ref04_given jn; dsimp only
  rw [e, Option.bind_some, hr, hv, bne_self_eq_false, cond_false, gd (inR_of (by omega)), ref04_in_eq, Option.bind_some]
  rw [decide_eq_true (show a ≥ 0 by omega), decide_eq_true (show a ≤ (t.fNodes.length : Int) - 1 by omega), Bool.and_true, Bool.not_true, cond_false, gd (inR_of (by omega)), ref04_in_eq, Option.bind_some]
  rw [decide_eq_true (show b ≥ 0 by omega), decide_eq_true (show b ≤ (t.fNodes.length : Int) - 1 by omega)]; rfl
theorem ref04_Attrs_eq {k : Nat} (hk : 1000 ≤ k) {t : Types} (ht : FewT t) (hv : validS t = 0) {a : Int} (h0 : 0 ≤ a) (ha : a < (t.fNodes.length : Int)) : ref04_Attrs k t a = some (attrsS t.fNodes t.fNodes.length a, 0) := by
  obtain ⟨w, h12, _⟩ := valid_wf hv
  have hl := attrsS_len w (fun x hx => ht.nattr x hx) t.fNodes.length a ha
  have hA := attrsS_all (G := FewA) w (fun x hx => ht.attr x hx) t.fNodes.length a ha
  unfold ref04_Attrs
  rw [ref04_given_eq (by omega) ht hv h0 ha h0 ha, Option.bind_some, bne_self_eq_false, cond_false, ref04_attrs_eq w (fun x hx => ht.nattr x hx) t.fNodes.length k a (by omega) (by omega) ha ha, Option.bind_some]
  generalize attrsS t.fNodes t.fNodes.length a = l at *
  refine Out.eq (loop2_out (S := List Attr) (P := fun _ _ r => r = (l, 0)) (I := fun s i => s = l.take i) l.length (fun s hs rec => ?_) (fun s i hi hs rec ih => ?_) k 0 [] (Nat.zero_le _) (by omega) rfl)
  · rw [ref04_Attrs.b0, decide_eq_false (show ¬ (l.length : Int) < (l.length : Int) by omega), cond_false, hs, List.take_length]; exact ⟨_, rfl, rfl⟩
  · have hf := (hA _ (rd_mem (l := l) (x := (i : Int)) (by omega) (by omega))).names
    have hsl : s.length ≤ 360 := by rw [hs, List.length_take]; omega
    rw [ref04_Attrs.b0, decide_eq_true (show (i : Int) < (l.length : Int) by omega), cond_true, gd ⟨by omega, by omega⟩, gd (show (rd l (i : Int)).fNames.length ≤ lim by unfold lim; omega), gd (show s.length + [rd l (i : Int)].length ≤ lim by unfold lim; simp; omega), gd (inR_nat (n := i) (by omega))]
    exact ih _ (by rw [hs, take_rdA hi])
theorem within_eq {k : Nat} (a b c : Int) : attribute_within k a b c = some (decide (a ≥ b) && decide (a ≤ c)) := by
  unfold attribute_within jn; dsimp only
  cases decide (a ≥ b) <;> rfl
def noAttr : Attr × Bool := (Attr.mk [] 0 0 [], false)
def attrP (t : Types) (g : Graph) (n a : Int) : Attr × Bool :=
  if 0 ≤ n ∧ n < (g.fNodes.length : Int) then (if 0 ≤ a ∧ a < ((attrsS t.fNodes t.fNodes.length (rd g.fNodes n)).length : Int) then (rd (attrsS t.fNodes t.fNodes.length (rd g.fNodes n)) a, true) else noAttr) else noAttr
structure Over (t : Types) (g : Graph) : Prop where
  few : FewT t
  val : validS t = 0
  nodes : ∀ x ∈ g.fNodes, 0 ≤ x ∧ x < (t.fNodes.length : Int)
  len : g.fNodes.length ≤ 45
theorem Over.attrs {t : Types} {g : Graph} (h : Over t g) {n : Int} (h0 : 0 ≤ n) (h1 : n < (g.fNodes.length : Int)) : (attrsS t.fNodes t.fNodes.length (rd g.fNodes n)).length ≤ 360 := by
  obtain ⟨w, h12, _⟩ := valid_wf h.val
  have hm := h.nodes _ (rd_mem h0 h1)
  have := attrsS_len w (fun x hx => h.few.nattr x hx) t.fNodes.length _ hm.2
  omega
theorem attrP_yes {t : Types} {g : Graph} {n a : Int} (c : 0 ≤ n ∧ n < (g.fNodes.length : Int)) (d : 0 ≤ a ∧ a < ((attrsS t.fNodes t.fNodes.length (rd g.fNodes n)).length : Int)) :
    attrP t g n a = (rd (attrsS t.fNodes t.fNodes.length (rd g.fNodes n)) a, true) := by unfold attrP; rw [if_pos c, if_pos d]
theorem attrP_no {t : Types} {g : Graph} {n a : Int} (c : 0 ≤ n ∧ n < (g.fNodes.length : Int)) (d : ¬ (0 ≤ a ∧ a < ((attrsS t.fNodes t.fNodes.length (rd g.fNodes n)).length : Int))) : attrP t g n a = noAttr := by unfold attrP; rw [if_pos c, if_neg d]
theorem attrP_out {t : Types} {g : Graph} {n a : Int} (c : ¬ (0 ≤ n ∧ n < (g.fNodes.length : Int))) : attrP t g n a = noAttr := if_neg c
theorem attr_eq {k : Nat} (hk : 1000 ≤ k) {t : Types} {p : Pattern} (h : Over t p.fGraph) (s : Slot) : attribute_attr k t p s = some (attrP t p.fGraph s.fNode s.fAttr) := by
  have hn := h.len
  unfold attribute_attr
  rw [gd (inR_of (by omega)), within_eq, Option.bind_some]
  by_cases c : 0 ≤ s.fNode ∧ s.fNode < (p.fGraph.fNodes.length : Int)
  · have hm := h.nodes _ (rd_mem c.1 c.2)
    have hl := h.attrs c.1 c.2
    rw [decide_eq_true (show s.fNode ≥ 0 by omega), decide_eq_true (show s.fNode ≤ (p.fGraph.fNodes.length : Int) - 1 by omega), Bool.and_true, Bool.not_true, cond_false, gd c, Attrs_eq hk h.few h.val hm.1 hm.2, Option.bind_some]
    dsimp only
    rw [gd (inR_of (by omega)), within_eq, Option.bind_some]
    by_cases d : 0 ≤ s.fAttr ∧ s.fAttr < ((attrsS t.fNodes t.fNodes.length (rd p.fGraph.fNodes s.fNode)).length : Int)
    · rw [attrP_yes c d, decide_eq_true (show s.fAttr ≥ 0 by omega), decide_eq_true (show s.fAttr ≤ ((attrsS t.fNodes t.fNodes.length (rd p.fGraph.fNodes s.fNode)).length : Int) - 1 by omega), Bool.and_true, Bool.not_true, cond_false, gd d]
    · rw [attrP_no c d]
      have : (decide (s.fAttr ≥ 0) && decide (s.fAttr ≤ ((attrsS t.fNodes t.fNodes.length (rd p.fGraph.fNodes s.fNode)).length : Int) - 1)) = false := by
        rw [Bool.and_eq_false_iff, decide_eq_false_iff_not, decide_eq_false_iff_not]; omega
      rw [this, Bool.not_false, cond_true]; rfl
  · rw [attrP_out c]
    have : (decide (s.fNode ≥ 0) && decide (s.fNode ≤ (p.fGraph.fNodes.length : Int) - 1)) = false := by
      rw [Bool.and_eq_false_iff, decide_eq_false_iff_not, decide_eq_false_iff_not]; omega
    rw [this, Bool.not_false, cond_true]; rfl
theorem ref_attr_eq {k : Nat} (hk : 1000 ≤ k) {t : Types} {p : Pattern} (h : Over t p.fGraph) (n a : Int) : ref21_attr k t p n a = some (attrP t p.fGraph n a) := by
  unfold ref21_attr jn; dsimp only
  by_cases c : 0 ≤ n ∧ n < (p.fGraph.fNodes.length : Int)
  · have hm := h.nodes _ (rd_mem c.1 c.2)
    rw [decide_eq_false (show ¬ n < 0 by omega), decide_eq_false (show ¬ n ≥ (p.fGraph.fNodes.length : Int) by omega), cond_false, cond_false, gd c, ref04_Attrs_eq hk h.few h.val hm.1 hm.2, Option.bind_some]
    dsimp only
    rw [bne_self_eq_false, cond_false]
    by_cases d : 0 ≤ a ∧ a < ((attrsS t.fNodes t.fNodes.length (rd p.fGraph.fNodes n)).length : Int)
    · rw [attrP_yes c d, decide_eq_false (show ¬ a < 0 by omega), decide_eq_false (show ¬ a ≥ ((attrsS t.fNodes t.fNodes.length (rd p.fGraph.fNodes n)).length : Int) by omega), cond_false, cond_false, gd d]
    · rw [attrP_no c d]
      by_cases e : a < 0
      · rw [decide_eq_true e, cond_true, cond_true]; rfl
      · rw [decide_eq_false e, decide_eq_true (show a ≥ ((attrsS t.fNodes t.fNodes.length (rd p.fGraph.fNodes n)).length : Int) by omega), cond_false, cond_true]; rfl
  · rw [attrP_out c]
    by_cases e : n < 0
    · rw [decide_eq_true e, cond_true, cond_true]; rfl
    · rw [decide_eq_false e, decide_eq_true (show n ≥ (p.fGraph.fNodes.length : Int) by omega), cond_false, cond_true]; rfl
def termB (n : Int) (x : Term) : Bool := decide (x.fVar ≥ -1) && (decide (x.fVar < n) && (decide (x.fAdd ≥ -1000000) && decide (x.fAdd ≤ 1000000)))
theorem term_eqB {k : Nat} (n : Int) (x : Term) : difference_term k n x = some (termB n x) := by
  unfold difference_term termB jn; dsimp only
  cases decide (x.fVar ≥ -1) <;> cases decide (x.fVar < n) <;> cases decide (x.fAdd ≥ -1000000) <;> rfl
theorem ref_term_eq {k : Nat} (n : Int) (x : Term) : ref03_within k n x = some (bif termB n x then 0 else 6) := by
  unfold ref03_within termB jn; dsimp only
  rw [show decide (x.fVar < -1) = !decide (x.fVar ≥ -1) by rw [Bool.eq_iff_iff]; simp <;> omega, show decide (x.fVar ≥ n) = !decide (x.fVar < n) by rw [Bool.eq_iff_iff]; simp,
    show decide (x.fAdd < -1000000) = !decide (x.fAdd ≥ -1000000) by rw [Bool.eq_iff_iff]; simp, show decide (x.fAdd > 1000000) = !decide (x.fAdd ≤ 1000000) by rw [Bool.eq_iff_iff]; simp]
  cases decide (x.fVar ≥ -1) <;> cases decide (x.fVar < n) <;> cases decide (x.fAdd ≥ -1000000) <;> cases decide (x.fAdd ≤ 1000000) <;> rfl
def testE (n : Int) (x : Test) : Int := bif (x.fKind != 1) && (x.fKind != 2) then 1 else bif termB n x.fLeft && termB n x.fRight then 0 else 6
theorem one_eq {k : Nat} (n : Int) (x : Test) : difference_one k n x = some (testE n x) := by
  unfold difference_one testE jn; dsimp only
  rw [term_eqB, term_eqB, Option.bind_some, Option.bind_some]
  cases (x.fKind != 1) <;> cases (x.fKind != 2) <;> cases termB n x.fLeft <;> cases termB n x.fRight <;> rfl
theorem ref_one_eq {k : Nat} (n : Int) (x : Test) : ref03_One k n x = some (testE n x) := by
  unfold ref03_One testE jn; dsimp only
  rw [ref_term_eq, ref_term_eq, Option.bind_some, Option.bind_some]
  cases (x.fKind != 1) <;> cases (x.fKind != 2) <;> cases termB n x.fLeft <;> cases termB n x.fRight <;> rfl
def testsE (n : Int) (l : List Test) : Int :=
  bif decide (n < 0) || decide (n > 12) then 6 else bif decide ((l.length : Int) > 40) then 3 else scan (fun i => testE n (rd l (i : Int))) 0 l.length
theorem tests_eq {k : Nat} (hk : 200 ≤ k) (n : Int) (l : List Test) : difference_Valid k n l = some (testsE n l) := by
  unfold difference_Valid testsE jn; dsimp only
  have key : decide ((l.length : Int) > 40) = false → loop1 k (difference_Valid.b0 k n l) 0 = some (scan (fun i => testE n (rd l (i : Int))) 0 l.length) := fun h => by
    have h' : l.length ≤ 40 := by have := of_decide_eq_false h; omega
    refine loop1_eq (fun i => scan (fun i => testE n (rd l (i : Int))) i l.length) l.length (fun rec => ?_) (fun i hi rec ih => ?_) (k := k) (i := 0) (Nat.zero_le _) (by omega)
    · rw [difference_Valid.b0, decide_eq_false (show ¬ (l.length : Int) < (l.length : Int) by omega), cond_false, scan_end]
    · rw [difference_Valid.b0, decide_eq_true (show (i : Int) < (l.length : Int) by omega), cond_true, gd ⟨by omega, by omega⟩, one_eq, Option.bind_some, gd (inR_nat (n := i) (by omega)), ih, scan_step hi]
      cases (testE n (rd l (i : Int)) != 0) <;> rfl
  cases decide (n < 0) <;> cases decide (n > 12) <;> first | rfl | (cases h : decide ((l.length : Int) > 40) <;> first | rfl | exact key h)
theorem ref_tests_eq {k : Nat} (hk : 200 ≤ k) (n : Int) (l : List Test) : ref03_Valid k n l = some (testsE n l) := by
  unfold ref03_Valid testsE jn; dsimp only
  have key : decide ((l.length : Int) > 40) = false → loop1 k (ref03_Valid.b0 k n l) 0 = some (scan (fun i => testE n (rd l (i : Int))) 0 l.length) := fun h => by
    have h' : l.length ≤ 40 := by have := of_decide_eq_false h; omega
    refine loop1_eq (fun i => scan (fun i => testE n (rd l (i : Int))) i l.length) l.length (fun rec => ?_) (fun i hi rec ih => ?_) (k := k) (i := 0) (Nat.zero_le _) (by omega)
    · rw [ref03_Valid.b0, decide_eq_false (show ¬ (l.length : Int) < (l.length : Int) by omega), cond_false, scan_end]
    · rw [ref03_Valid.b0, decide_eq_true (show (i : Int) < (l.length : Int) by omega), cond_true, gd ⟨by omega, by omega⟩, ref_one_eq, Option.bind_some, gd (inR_nat (n := i) (by omega)), ih, scan_step hi]
      cases (testE n (rd l (i : Int)) != 0) <;> rfl
  cases decide (n < 0) <;> cases decide (n > 12) <;> first | rfl | (cases h : decide ((l.length : Int) > 40) <;> first | rfl | exact key h)
theorem Contains_bool {k : Nat} (l : List Bool) (a : Bool) (hk : l.length < k) (hl : l.length ≤ 1000000) :
    slices_Contains_bool k l a = some (anyN (fun j => a == rd l (j : Int)) 0 l.length) := ix_contains l (fun x => some (a == x)) _ k hk hl (fun _ _ => rfl)
def slotBad (t : Types) (p : Pattern) (i : Nat) : Bool :=
  !(attrP t p.fGraph (rd p.fSlots (i : Int)).fNode (rd p.fSlots (i : Int)).fAttr).2 || (!(decide ((rd p.fSlots (i : Int)).fTerm.fVar ≥ -1) && decide ((rd p.fSlots (i : Int)).fTerm.fVar < p.fVars)) || !(decide ((rd p.fSlots (i : Int)).fTerm.fAdd ≥ -1000000) && decide ((rd p.fSlots (i : Int)).fTerm.fAdd ≤ 1000000)))
def hasVar (p : Pattern) (i : Nat) (v : Nat) : Bool := anyN (fun j => (rd p.fSlots (j : Int)).fTerm.fVar == (v : Int)) i p.fSlots.length
def unusedE (p : Pattern) (v : Nat) : Int := bif anyN (fun v => !hasVar p 0 v) v p.fVars.toNat then 9 else 0
def restE (p : Pattern) : Int := bif testsE p.fVars p.fTests != 0 then testsE p.fVars p.fTests else unusedE p 0
def slotsE (t : Types) (p : Pattern) (i : Nat) : Int := bif anyN (slotBad t p) i p.fSlots.length then 6 else restE p
def patE (t : Types) (p : Pattern) : Int :=
  bif validS t != 0 then validS t else bif graphErr p.fGraph != 0 then graphErr p.fGraph else bif !typedB t p.fGraph then 13
  else bif decide (p.fVars < 0) || decide (p.fVars > 12) then 6 else bif decide ((p.fSlots.length : Int) > 10) || decide ((p.fTests.length : Int) > 10) then 3 else slotsE t p 0
structure FewP (p : Pattern) : Prop where
  graph : FewG p.fGraph
  slots : p.fSlots.length ≤ 15
  tests : p.fTests.length ≤ 15
theorem over_of {t : Types} {g : Graph} (ht : FewT t) (hv : validS t = 0) (hg : GoodG g) (hy : typedB t g = true) : Over t g where
  few := ht
  val := hv
  nodes x hx := by
    obtain ⟨j, hj, rfl⟩ := List.mem_iff_getElem.1 hx
    have e : rd g.fNodes (j : Int) = g.fNodes[j] := by simp [rd, List.getD, List.getElem?_eq_getElem hj]
    rw [← e]; exact ⟨(hg.kind j hj).1, typedB_node hy hj⟩
  len := by have := hg.nodes; omega
theorem occurs_eq {k : Nat} (hk : 200 ≤ k) {p : Pattern} (hs : p.fSlots.length ≤ 15) (v : Nat) : ref21_occurs k p (v : Int) = some (hasVar p 0 v) := by
  refine loop1_eq (fun i => hasVar p i v) p.fSlots.length (fun rec => ?_) (fun i hi rec ih => ?_) (k := k) (i := 0) (Nat.zero_le _) (by omega)
  · rw [ref21_occurs.b0, decide_eq_false (show ¬ (p.fSlots.length : Int) < (p.fSlots.length : Int) by omega), cond_false, hasVar, anyN_end]
  · unfold hasVar at ih ⊢
    rw [ref21_occurs.b0, decide_eq_true (show (i : Int) < (p.fSlots.length : Int) by omega), cond_true, gd ⟨by omega, by omega⟩, gd (inR_nat (n := i) (by omega)), ih, anyN_step hi]
    cases ((rd p.fSlots (i : Int)).fTerm.fVar == (v : Int)) <;> rfl
theorem unused_eq {k : Nat} (hk : 200 ≤ k) {p : Pattern} (hs : p.fSlots.length ≤ 15) (h0 : 0 ≤ p.fVars) (h1 : p.fVars ≤ 12) : loop1 k (ref21_Valid.b1 k p) 0 = some (unusedE p 0) := by
  refine loop1_eq (fun i => unusedE p i) p.fVars.toNat (fun rec => ?_) (fun i hi rec ih => ?_) (k := k) (i := 0) (Nat.zero_le _) (by omega)
  · rw [ref21_Valid.b1, decide_eq_false (by omega), cond_false, unusedE, anyN_end]; rfl
  · unfold unusedE at ih ⊢
    rw [ref21_Valid.b1, decide_eq_true (show (i : Int) < p.fVars by omega), cond_true, occurs_eq hk hs, Option.bind_some, gd (inR_nat (n := i) (by omega)), ih, anyN_step hi]
    cases hasVar p 0 i <;> rfl
theorem ref_valid_eq {k : Nat} (hk : 1000 ≤ k) {t : Types} {p : Pattern} (ht : FewT t) (hp : FewP p) : ref21_Valid k t p = some (patE t p) := by
  have hs := hp.slots
  obtain ⟨r, e, hr⟩ := ref04_Valid_out (k := k) (by omega) ht
  unfold ref21_Valid patE jn; dsimp only
  rw [e, Option.bind_some, hr]
  cases hv : (validS t != 0) with
  | true => rfl
  | false =>
    rw [cond_false, cond_false, ref05_Valid_eq (by omega) hp.graph, Option.bind_some]
    cases hg : (graphErr p.fGraph != 0) with
    | true => rfl
    | false =>
      have hg' : graphErr p.fGraph = 0 := by simpa using hg
      have good := graphErr_good hg'
      rw [cond_false, cond_false, ref17_Typed_eq (by omega) t good, Option.bind_some]
      cases hy : typedB t p.fGraph with
      | false => rfl
      | true =>
        have ov := over_of ht (by simpa using hv) good hy
        rw [Bool.not_true, cond_false, cond_false]
        by_cases c0 : p.fVars < 0
        · rw [decide_eq_true c0]; rfl
        · by_cases c1 : p.fVars > 12
          · rw [decide_eq_false c0, decide_eq_true c1]; rfl
          · rw [decide_eq_false c0, decide_eq_false c1, cond_false, cond_false, Bool.or_false, cond_false]
            by_cases c2 : (p.fSlots.length : Int) > 10
            · rw [decide_eq_true c2]; rfl
            · by_cases c3 : (p.fTests.length : Int) > 10
              · rw [decide_eq_false c2, decide_eq_true c3]; rfl
              · rw [decide_eq_false c2, decide_eq_false c3, cond_false, cond_false, Bool.or_false, cond_false]
                refine loop1_eq (fun i => slotsE t p i) p.fSlots.length (fun rec => ?_) (fun i hi rec ih => ?_) (k := k) (i := 0) (Nat.zero_le _) (by omega)
                · rw [ref21_Valid.b0, decide_eq_false (show ¬ (p.fSlots.length : Int) < (p.fSlots.length : Int) by omega), cond_false, ref_tests_eq (by omega), Option.bind_some, unused_eq (by omega) hs (by omega) (by omega), slotsE, anyN_end, restE]
                  cases (testsE p.fVars p.fTests != 0) <;> rfl
                · unfold slotsE at ih ⊢
                  rw [ref21_Valid.b0]; unfold jn; dsimp only
                  rw [decide_eq_true (show (i : Int) < (p.fSlots.length : Int) by omega), cond_true, gd ⟨by omega, by omega⟩, ref_attr_eq hk ov, Option.bind_some, gd (inR_nat (n := i) (by omega)), ih, anyN_step hi, slotBad]
                  unfold ref21_bounded jn; dsimp only
                  rw [show decide ((rd p.fSlots (i : Int)).fTerm.fVar < -1) = !decide ((rd p.fSlots (i : Int)).fTerm.fVar ≥ -1) by rw [Bool.eq_iff_iff]; simp <;> omega, show decide ((rd p.fSlots (i : Int)).fTerm.fVar ≥ p.fVars) = !decide ((rd p.fSlots (i : Int)).fTerm.fVar < p.fVars) by rw [Bool.eq_iff_iff]; simp]
                  cases (attrP t p.fGraph (rd p.fSlots (i : Int)).fNode (rd p.fSlots (i : Int)).fAttr).2 <;> cases decide ((rd p.fSlots (i : Int)).fTerm.fVar ≥ -1) <;> cases decide ((rd p.fSlots (i : Int)).fTerm.fVar < p.fVars) <;> cases decide ((rd p.fSlots (i : Int)).fTerm.fAdd ≥ -1000000) <;> cases decide ((rd p.fSlots (i : Int)).fTerm.fAdd ≤ 1000000) <;> rfl
structure Seen (p : Pattern) (s : List Bool) (i : Nat) : Prop where
  len : (s.length : Int) = p.fVars
  var : ∀ v : Nat, v < s.length → (rd s (v : Int) = true ↔ ∃ j, j < i ∧ (rd p.fSlots (j : Int)).fTerm.fVar = (v : Int))
theorem rd_setB {s : List Bool} {a : Nat} (ha : a < s.length) (v : Nat) : rd (s.set a true) (v : Int) = (if v = a then true else rd s (v : Int)) := by
  unfold rd
  rw [Int.toNat_natCast, List.getD_eq_getElem?_getD, List.getD_eq_getElem?_getD, List.getElem?_set]
  by_cases h : v = a
  · subst h; simp [ha]
  · rw [if_neg (fun e => h e.symm), if_neg h]
theorem Seen.put {p : Pattern} {s : List Bool} {i : Nat} (h : Seen p s i) (h0 : 0 ≤ (rd p.fSlots (i : Int)).fTerm.fVar) (h1 : (rd p.fSlots (i : Int)).fTerm.fVar < (s.length : Int)) : Seen p (s.set ((rd p.fSlots (i : Int)).fTerm.fVar).toNat true) (i + 1) := by
  refine ⟨by rw [List.length_set]; exact h.len, fun v hv => ?_⟩
  rw [List.length_set] at hv
  rw [rd_setB (by omega)]
  by_cases c : v = ((rd p.fSlots (i : Int)).fTerm.fVar).toNat
  · rw [if_pos c]
    exact ⟨fun _ => ⟨i, by omega, by omega⟩, fun _ => rfl⟩
  · rw [if_neg c, h.var v hv]
    constructor
    · rintro ⟨j, hj, e⟩; exact ⟨j, by omega, e⟩
    · rintro ⟨j, hj, e⟩
      rcases Nat.lt_succ_iff_lt_or_eq.1 hj with hj | rfl
      · exact ⟨j, hj, e⟩
      · exact absurd e (by omega)
theorem Seen.skip {p : Pattern} {s : List Bool} {i : Nat} (h : Seen p s i) (h0 : (rd p.fSlots (i : Int)).fTerm.fVar < 0) : Seen p s (i + 1) := by
  refine ⟨h.len, fun v hv => ?_⟩
  rw [h.var v hv]
  constructor
  · rintro ⟨j, hj, e⟩; exact ⟨j, by omega, e⟩
  · rintro ⟨j, hj, e⟩
    rcases Nat.lt_succ_iff_lt_or_eq.1 hj with hj | rfl
    · exact ⟨j, hj, e⟩
    · exact absurd e (by omega)
theorem Seen.all {p : Pattern} {s : List Bool} (h : Seen p s p.fSlots.length) : anyN (fun j => false == rd s (j : Int)) 0 s.length = anyN (fun v => !hasVar p 0 v) 0 p.fVars.toNat := by
  have hl := h.len
  rw [show p.fVars.toNat = s.length by omega]
  rw [Bool.eq_iff_iff, anyN_iff, anyN_iff]
  constructor
  · rintro ⟨j, _, hj, e⟩
    refine ⟨j, Nat.zero_le _, hj, ?_⟩
    have e1 : rd s (j : Int) = false := by simpa using e
    rw [Bool.not_eq_true']
    cases hh : hasVar p 0 j with
    | false => rfl
    | true =>
      obtain ⟨q, _, hq, hv⟩ := anyN_iff.1 hh
      have := (h.var j hj).2 ⟨q, hq, by simpa using hv⟩
      rw [e1] at this; cases this
  · rintro ⟨j, _, hj, e⟩
    refine ⟨j, Nat.zero_le _, hj, ?_⟩
    rw [Bool.not_eq_true'] at e
    cases hr : rd s (j : Int) with
    | false => rfl
    | true =>
      obtain ⟨q, hq, hv⟩ := (h.var j hj).1 hr
      have : hasVar p 0 j = true := anyN_iff.2 ⟨q, Nat.zero_le _, hq, by simpa using hv⟩
      rw [e] at this; cases this
theorem valid_eq {k : Nat} (hk : 1000 ≤ k) {t : Types} {p : Pattern} (ht : FewT t) (hp : FewP p) : attribute_Valid k t p = some (patE t p) := by
  have hs := hp.slots
  have h1 := hp.graph.nodes; have h2 := hp.graph.edges
  obtain ⟨r, e, hr⟩ := types_Valid_out (k := k) (by omega) ht
  unfold attribute_Valid patE jn; dsimp only
  rw [e, Option.bind_some, hr]
  cases hv : (validS t != 0) with
  | true => rfl
  | false =>
    rw [cond_false, cond_false, graph_Valid_eq (by omega) hp.graph, Option.bind_some]
    cases hg : (graphErr p.fGraph != 0) with
    | true => rfl
    | false =>
      have hg' : graphErr p.fGraph = 0 := by simpa using hg
      have good := graphErr_good hg'
      have h3 := ContainsFunc_int (k := k) p.fGraph.fNodes (fun x => attribute_Valid_1 k x t) (fun j => decide (rd p.fGraph.fNodes (j : Int) ≥ (t.fNodes.length : Int))) (by omega) (by omega) (fun j _ => rfl)
      have h4 := ContainsFunc_Edge (k := k) p.fGraph.fEdges (fun x => attribute_Valid_2 k x t) (fun j => decide ((rd p.fGraph.fEdges (j : Int)).fType ≥ (t.fEdges.length : Int))) (by omega) (by omega) (fun j _ => rfl)
      rw [cond_false, cond_false, h3, Option.bind_some, h4, Option.bind_some]
      cases hy : typedB t p.fGraph with
      | false =>
        unfold typedB at hy
        cases q1 : anyN (fun j => decide (rd p.fGraph.fNodes (j : Int) ≥ (t.fNodes.length : Int))) 0 p.fGraph.fNodes.length with
        | true => rfl
        | false =>
          rw [q1, Bool.not_false, Bool.true_and, Bool.not_eq_false'] at hy
          rw [hy]; rfl
      | true =>
        have ov := over_of ht (by simpa using hv) good hy
        unfold typedB at hy
        rw [Bool.and_eq_true, Bool.not_eq_true', Bool.not_eq_true'] at hy
        rw [hy.1, hy.2, cond_false, cond_false, within_eq, Option.bind_some, Bool.not_true, cond_false]
        by_cases c0 : p.fVars < 0
        · rw [decide_eq_true c0, decide_eq_false (show ¬ p.fVars ≥ 0 by omega)]; rfl
        · by_cases c1 : p.fVars > 12
          · rw [decide_eq_false c0, decide_eq_true c1, decide_eq_true (show p.fVars ≥ 0 by omega), decide_eq_false (show ¬ p.fVars ≤ 12 by omega)]; rfl
          · rw [decide_eq_false c0, decide_eq_false c1, decide_eq_true (show p.fVars ≥ 0 by omega), decide_eq_true (show p.fVars ≤ 12 by omega), Bool.and_true, Bool.not_true, cond_false, Bool.or_false, cond_false]
            by_cases c2 : (p.fSlots.length : Int) > 10
            · rw [decide_eq_true c2]; rfl
            · by_cases c3 : (p.fTests.length : Int) > 10
              · rw [decide_eq_false c2, decide_eq_true c3]; rfl
              · rw [decide_eq_false c2, decide_eq_false c3, cond_false, cond_false, Bool.or_false, cond_false, gd (show (0 : Int) ≤ p.fVars ∧ p.fVars ≤ (lim : Int) by unfold lim; omega)]
                refine Out.eq (loop2_out (S := List Bool) (P := fun _ i r => r = slotsE t p i) (I := fun s i => Seen p s i) p.fSlots.length (fun s hs' rec => ?_) (fun s i hi hs' rec ih => ?_) k 0 _ (Nat.zero_le _) (by omega) ⟨by rw [List.length_replicate]; omega, fun v hv => ⟨fun e => ?_, fun ⟨j, hj, _⟩ => by omega⟩⟩)
                · have hl := hs'.len
                  rw [attribute_Valid.b0, decide_eq_false (show ¬ (p.fSlots.length : Int) < (p.fSlots.length : Int) by omega), cond_false, tests_eq (by omega), Option.bind_some, Contains_bool (k := k) s false (by omega) (by omega), Option.bind_some, hs'.all, slotsE, anyN_end, restE]
                  unfold unusedE
                  cases (testsE p.fVars p.fTests != 0) <;> cases anyN (fun v => !hasVar p 0 v) 0 p.fVars.toNat <;> exact ⟨_, rfl, rfl⟩
                · have hl := hs'.len
                  have hi' : inR ((i : Int) + 1) := inR_nat (n := i) (by omega)
                  unfold slotsE at ih ⊢
                  rw [attribute_Valid.b0]; unfold jn; dsimp only
                  rw [decide_eq_true (show (i : Int) < (p.fSlots.length : Int) by omega), cond_true, gd ⟨by omega, by omega⟩, attr_eq hk ov, Option.bind_some, gd (inR_of (x := p.fVars - 1) (by omega)), within_eq, Option.bind_some, within_eq, Option.bind_some, anyN_step hi, slotBad]
                  rw [show decide ((rd p.fSlots (i : Int)).fTerm.fVar ≤ p.fVars - 1) = decide ((rd p.fSlots (i : Int)).fTerm.fVar < p.fVars) by rw [Bool.eq_iff_iff]; simp; omega]
                  cases hA : (attrP t p.fGraph (rd p.fSlots (i : Int)).fNode (rd p.fSlots (i : Int)).fAttr).2 with
                  | false => exact ⟨6, rfl, rfl⟩
                  | true =>
                    rw [Bool.not_true, cond_false, Bool.false_or]
                    cases hB : (decide ((rd p.fSlots (i : Int)).fTerm.fVar ≥ -1) && decide ((rd p.fSlots (i : Int)).fTerm.fVar < p.fVars)) with
                    | false => exact ⟨6, rfl, rfl⟩
                    | true =>
                      rw [Bool.not_true, cond_false, Bool.false_or]
                      rw [Bool.and_eq_true, decide_eq_true_eq, decide_eq_true_eq] at hB
                      cases hC : (decide ((rd p.fSlots (i : Int)).fTerm.fAdd ≥ -1000000) && decide ((rd p.fSlots (i : Int)).fTerm.fAdd ≤ 1000000)) with
                      | false => exact ⟨6, rfl, rfl⟩
                      | true =>
                        rw [Bool.not_true, cond_false, Bool.false_or]
                        by_cases d : (rd p.fSlots (i : Int)).fTerm.fVar ≥ 0
                        · rw [decide_eq_true d, cond_true, gd ⟨by omega, by omega⟩, gd hi']
                          exact ih _ (hs'.put (by omega) (by omega))
                        · rw [decide_eq_false d, cond_false, gd hi']
                          exact ih _ (hs'.skip (by omega))
                · rw [List.length_replicate] at hv
                  simp [rd, List.getD, List.getElem?_replicate, hv] at e
def firstF (e : Nat → Int) (z : Int × Int) : Nat → Nat → Int × Int
  | _, 0 => z
  | i, d + 1 => bif e i != 0 then ((i : Int), e i) else firstF e z (i + 1) d
def first (e : Nat → Int) (z : Int × Int) (i n : Nat) : Int × Int := firstF e z i (n - i)
def outB (l : List Attr) (vs : List Int) (i : Nat) : Bool := decide (rd vs (i : Int) < (rd l (i : Int)).fLow) || decide (rd vs (i : Int) > (rd l (i : Int)).fHigh)
def nodeV (t : Types) (kind : Int) (vs : List Int) : Int :=
  bif decide (kind ≥ (t.fNodes.length : Int)) then 6 else bif (rd t.fNodes kind).fAbstract then 13 else bif ((vs.length : Int) != ((attrsS t.fNodes t.fNodes.length kind).length : Int)) then 20
  else bif anyN (outB (attrsS t.fNodes t.fNodes.length kind) vs) 0 (attrsS t.fNodes t.fNodes.length kind).length then 6 else 0
def Sm (x : Int) : Prop := -1000000 ≤ x ∧ x ≤ 1000000
structure SlotOk (p : Pattern) (h : Host) (m : Morphism) (i : Nat) : Prop where
  n0 : 0 ≤ (rd p.fSlots (i : Int)).fNode
  n1 : (rd p.fSlots (i : Int)).fNode < (m.fNodes.length : Int)
  m0 : 0 ≤ rd m.fNodes (rd p.fSlots (i : Int)).fNode
  m1 : rd m.fNodes (rd p.fSlots (i : Int)).fNode < (h.fValues.length : Int)
  a0 : 0 ≤ (rd p.fSlots (i : Int)).fAttr
  a1 : (rd p.fSlots (i : Int)).fAttr < ((rd h.fValues (rd m.fNodes (rd p.fSlots (i : Int)).fNode)).length : Int)
  v1 : (rd p.fSlots (i : Int)).fTerm.fVar < p.fVars
  add : Sm (rd p.fSlots (i : Int)).fTerm.fAdd
  val : Sm (rd (rd h.fValues (rd m.fNodes (rd p.fSlots (i : Int)).fNode)) (rd p.fSlots (i : Int)).fAttr)
structure SolveOk (p : Pattern) (h : Host) (m : Morphism) : Prop where
  v0 : 0 ≤ p.fVars
  v1 : p.fVars ≤ 12
  slots : p.fSlots.length ≤ 15
  tests : p.fTests.length ≤ 40
  slot : ∀ i, i < p.fSlots.length → SlotOk p h m i
  left : ∀ i, i < p.fTests.length → Sm (rd p.fTests (i : Int)).fLeft.fAdd
  right : ∀ i, i < p.fTests.length → Sm (rd p.fTests (i : Int)).fRight.fAdd
theorem few21_eq {k : Nat} (p : Pattern) : ref21_Few k p = some ((decide ((p.fGraph.fNodes.length : Int) ≤ 45) && decide ((p.fGraph.fEdges.length : Int) ≤ 90)) && (decide ((p.fSlots.length : Int) ≤ 15) && decide ((p.fTests.length : Int) ≤ 15))) := by
  unfold ref21_Few jn; dsimp only
  rw [ref05_Few_eq, Option.bind_some]
  cases (decide ((p.fGraph.fNodes.length : Int) ≤ 45) && decide ((p.fGraph.fEdges.length : Int) ≤ 90)) <;> cases decide ((p.fSlots.length : Int) ≤ 15) <;> rfl
structure FewH (h : Host) : Prop where
  graph : FewG h.fGraph
  len : h.fValues.length ≤ 45
  each : ∀ j : Nat, j < h.fValues.length → (rd h.fValues (j : Int)).length ≤ 12
structure Lit21 (t : Types) (p : Pattern) (h : Host) : Prop where
  pat : FewP p
  host : FewH h
  light : LightP t p.fGraph h.fGraph
theorem copied21 {k : Nat} {p : Pattern} (hp : FewP p) : ref21_Copied k p = some p := by
  have h1 := hp.graph.nodes; have h2 := hp.graph.edges; have h3 := hp.slots; have h4 := hp.tests
  unfold ref21_Copied ref05_Copied
  rw [gd (show p.fGraph.fNodes.length ≤ lim by unfold lim; omega), gd (show p.fGraph.fEdges.length ≤ lim by unfold lim; omega), Option.bind_some, gd (show p.fSlots.length ≤ lim by unfold lim; omega), gd (show p.fTests.length ≤ lim by unfold lim; omega)]
structure HostOk (t : Types) (h : Host) : Prop where
  val : validS t = 0
  graph : GoodG h.fGraph
  len : h.fValues.length = h.fGraph.fNodes.length
  node : ∀ j, j < h.fGraph.fNodes.length → nodeV t (rd h.fGraph.fNodes (j : Int)) (rd h.fValues (j : Int)) = 0
structure PatOk (t : Types) (p : Pattern) : Prop where
  val : validS t = 0
  graph : GoodG p.fGraph
  typed : typedB t p.fGraph = true
  v0 : 0 ≤ p.fVars
  v1 : p.fVars ≤ 12
  slots : p.fSlots.length ≤ 10
  tests : p.fTests.length ≤ 10
  slot : ∀ j, j < p.fSlots.length → slotBad t p j = false
  test : ∀ j, j < p.fTests.length → testE p.fVars (rd p.fTests (j : Int)) = 0
theorem pat_ok {t : Types} {p : Pattern} (e : patE t p = 0) : PatOk t p := by
  unfold patE at e
  cases h0 : (validS t != 0) with
  | true => rw [h0, cond_true] at e; rw [e] at h0; cases h0
  | false =>
    cases h1 : (graphErr p.fGraph != 0) with
    | true => rw [h0, h1, cond_false, cond_true] at e; rw [e] at h1; cases h1
    | false =>
      cases h2 : typedB t p.fGraph with
      | false => rw [h0, h1, h2] at e; cases e
      | true =>
        cases h3 : (decide (p.fVars < 0) || decide (p.fVars > 12)) with
        | true => rw [h0, h1, h2, h3] at e; cases e
        | false =>
          cases h4 : (decide ((p.fSlots.length : Int) > 10) || decide ((p.fTests.length : Int) > 10)) with
          | true => rw [h0, h1, h2, h3, h4] at e; cases e
          | false =>
            rw [h0, h1, h2, h3, h4] at e
            have e : slotsE t p 0 = 0 := e
            rw [Bool.or_eq_false_iff, decide_eq_false_iff_not, decide_eq_false_iff_not] at h3 h4
            unfold slotsE at e
            cases h5 : anyN (slotBad t p) 0 p.fSlots.length with
            | true => rw [h5] at e; cases e
            | false =>
              rw [h5, cond_false] at e
              unfold restE at e
              cases h6 : (testsE p.fVars p.fTests != 0) with
              | true => rw [h6, cond_true] at e; rw [e] at h6; cases h6
              | false =>
                have h7 : testsE p.fVars p.fTests = 0 := by simpa using h6
                unfold testsE at h7
                rw [decide_eq_false h3.1, decide_eq_false h3.2, Bool.or_false, cond_false, decide_eq_false (show ¬ (p.fTests.length : Int) > 40 by omega), cond_false] at h7
                exact ⟨by simpa using h0, graphErr_good (by simpa using h1), h2, by omega, by omega, by omega, by omega, fun j hj => anyN_false h5 j (Nat.zero_le _) hj, fun j hj => scan_zero h7 j (Nat.zero_le _) hj⟩
def sv (k : Nat) (p : Pattern) (h : Host) (m : Morphism) : List Int × Int := (attribute_solve k p h m).getD ([], 0)
def pick (k : Nat) (p : Pattern) (h : Host) (m : Morphism) : List Match := bif (sv k p h m).2 == 0 then [Match.mk m (sv k p h m).1] else []
attribute [local irreducible] inR
theorem loop3_out {S T R : Type} {b : (S → T → Int → Option R) → S → T → Int → Option R} {P : R → Prop} {I : S → T → Nat → Prop} (n : Nat) (hend : ∀ s u, I s u n → ∀ rec, Out (b rec s u (n : Int)) P)
    (hstep : ∀ s u i, i < n → I s u i → ∀ rec : S → T → Int → Option R, (∀ s' u', I s' u' (i + 1) → Out (rec s' u' ((i : Int) + 1)) P) → Out (b rec s u (i : Int)) P) :
    ∀ (k i : Nat) (s : S) (u : T), i ≤ n → n < k + i → I s u i → Out (loop3 k b s u (i : Int)) P
  | 0, i, s, u, h, hk, _ => by omega
  | k + 1, i, s, u, h, hk, hi => by
    rcases Nat.lt_or_ge i n with hl | hl
    · refine hstep s u i hl hi _ fun s' u' hI => ?_
      have := loop3_out n hend hstep k (i + 1) s' u' hl (by omega) hI
      simpa using this
    · have : i = n := by omega
      subst this
      exact hend s u hi _
def gv (vs : List Int) (x : Term) : Int := bif decide (x.fVar < 0) then x.fAdd else rd vs x.fVar + x.fAdd
def gok (vs : List Int) (x : Term) : Bool := decide (gv vs x ≥ -1000000) && decide (gv vs x ≤ 1000000)
def gtm (vs : List Int) (x : Term) : Term := Term.mk (-1) (gv vs x)
def I32 (vs : List Int) : Prop := ∀ v ∈ vs, -2147483648 ≤ v ∧ v ≤ 2147483647
structure TermOk (vs : List Int) (x : Term) : Prop where
  var : x.fVar < (vs.length : Int)
  add : Sm x.fAdd
theorem inR_gv {vs : List Int} (hv : I32 vs) {x : Term} (o : TermOk vs x) (c : ¬ x.fVar < 0) : inR (rd vs x.fVar + x.fAdd) := by
  have m := hv _ (rd_mem (l := vs) (x := x.fVar) (by omega) o.var)
  have h1 := o.add.1; have h2 := o.add.2; have m1 := m.1; have m2 := m.2
  unfold inR; omega
theorem att_value {k : Nat} {vs : List Int} (hv : I32 vs) {x : Term} (o : TermOk vs x) : attribute_value k x vs = some (gv vs x) := by
  unfold attribute_value gv
  by_cases c : x.fVar < 0
  · rw [decide_eq_true c]; rfl
  · rw [decide_eq_false c, cond_false, cond_false, gd ⟨by omega, o.var⟩, gd (inR_gv hv o c)]
theorem ref_value {k : Nat} {vs : List Int} (hv : I32 vs) {x : Term} (o : TermOk vs x) : ref21_value k x vs = some (gv vs x) := by
  unfold ref21_value gv
  by_cases c : x.fVar < 0
  · rw [decide_eq_true c]; rfl
  · rw [decide_eq_false c, cond_false, cond_false, gd ⟨by omega, o.var⟩, gd (inR_gv hv o c)]
theorem ground1 {k : Nat} {vs : List Int} (hv : I32 vs) {x : Term} (o : TermOk vs x) (b : Bool) : attribute_Ground_1 k x vs b = some (gtm vs x, b && gok vs x) := by
  unfold attribute_Ground_1 attribute_grounded jn; dsimp only
  rw [att_value hv o, Option.bind_some, within_eq, Option.bind_some, Option.bind_some]
  cases b <;> rfl
theorem bounded_eq {k : Nat} (a : Int) : ref21_bounded k a = some (decide (a ≥ -1000000) && decide (a ≤ 1000000)) := by
  unfold ref21_bounded jn; dsimp only
  cases decide (a ≥ -1000000) <;> rfl
theorem ref_ground {k : Nat} {vs : List Int} (hv : I32 vs) {x : Term} (o : TermOk vs x) : ref21_ground k x vs = some (bif gok vs x then (gtm vs x, 0) else (Term.mk 0 0, 6)) := by
  unfold ref21_ground
  rw [ref_value hv o, Option.bind_some, bounded_eq, Option.bind_some]
  unfold gok gtm
  cases (decide (gv vs x ≥ -1000000) && decide (gv vs x ≤ 1000000)) <;> rfl
def gslot (vs : List Int) (s : Slot) : Slot := Slot.mk s.fNode s.fAttr (gtm vs s.fTerm)
def gtest (vs : List Int) (s : Test) : Test := Test.mk s.fKind (gtm vs s.fLeft) (gtm vs s.fRight)
def sok (vs : List Int) (s : Slot) : Bool := gok vs s.fTerm
def tok (vs : List Int) (s : Test) : Bool := gok vs s.fLeft && gok vs s.fRight
def noPat : Pattern := Pattern.mk (Graph.mk [] []) [] 0 []
def groundS (p : Pattern) (vs : List Int) : Pattern × Int :=
  bif p.fSlots.all (sok vs) && p.fTests.all (tok vs) then (Pattern.mk p.fGraph (p.fSlots.map (gslot vs)) 0 (p.fTests.map (gtest vs)), 0) else (noPat, 6)
structure PatT (p : Pattern) (vs : List Int) : Prop where
  few : FewP p
  slot : ∀ j : Nat, j < p.fSlots.length → TermOk vs (rd p.fSlots (j : Int)).fTerm
  left : ∀ j : Nat, j < p.fTests.length → TermOk vs (rd p.fTests (j : Int)).fLeft
  right : ∀ j : Nat, j < p.fTests.length → TermOk vs (rd p.fTests (j : Int)).fRight
theorem all_take {α : Type} [Inhabited α] (f : α → Bool) {l : List α} {i : Nat} (hi : i < l.length) : (l.take (i + 1)).all f = ((l.take i).all f && f (rd l (i : Int))) := by
  rw [take_rdA hi, List.all_append]; simp
theorem map_take {α β : Type} [Inhabited α] (f : α → β) {l : List α} {i : Nat} (hi : i < l.length) : (l.take (i + 1)).map f = (l.take i).map f ++ [f (rd l (i : Int))] := by
  rw [take_rdA hi, List.map_append]; rfl
theorem all_false {α : Type} [Inhabited α] {f : α → Bool} {l : List α} {i : Nat} (hi : i < l.length) (h : f (rd l (i : Int)) = false) : l.all f = false := by
  rw [List.all_eq_false]; exact ⟨_, rd_mem (x := (i : Int)) (by omega) (by omega), by rw [h]; decide⟩
theorem att_tests {k : Nat} (hk : 200 ≤ k) {p : Pattern} {vs : List Int} (hv : I32 vs) (o : PatT p vs) (b : Bool) :
    loop3 k (attribute_Ground.b1 k p vs p.fGraph.fNodes p.fGraph.fEdges (p.fSlots.map (gslot vs))) [] b 0 =
      some (bif b && p.fTests.all (tok vs) then (Pattern.mk p.fGraph (p.fSlots.map (gslot vs)) 0 (p.fTests.map (gtest vs)), 0) else (noPat, 6)) := by
  have lm : 5000 ≤ lim := by decide
  have hl := o.few.tests
  refine (loop3_out (P := fun r => r = _) (I := fun s u i => s = (p.fTests.take i).map (gtest vs) ∧ u = (b && (p.fTests.take i).all (tok vs))) p.fTests.length (fun s u hI rec => ?_) (fun s u i hi hI rec ih => ?_) k 0 [] b (Nat.zero_le _) (by omega) ⟨rfl, by simp⟩).eq
  · obtain ⟨rfl, rfl⟩ := hI
    rw [attribute_Ground.b1, decide_eq_false (show ¬ (p.fTests.length : Int) < (p.fTests.length : Int) by omega), cond_false, List.take_length]
    cases (b && p.fTests.all (tok vs)) <;> exact ⟨_, rfl, rfl⟩
  · obtain ⟨rfl, rfl⟩ := hI
    have hs : ((p.fTests.take i).map (gtest vs)).length ≤ 15 := by rw [List.length_map, List.length_take]; omega
    rw [attribute_Ground.b1, decide_eq_true (show (i : Int) < (p.fTests.length : Int) by omega), cond_true, gd ⟨by omega, by omega⟩]
    unfold jn; dsimp only
    rw [ground1 hv (o.left i hi), Option.bind_some, ground1 hv (o.right i hi), Option.bind_some, gd (show _ ≤ lim by rw [List.length_singleton]; omega), gd (inR_nat (n := i) (by omega))]
    refine ih _ _ ⟨(map_take _ hi).symm, ?_⟩
    rw [all_take _ hi]
    show ((b && (p.fTests.take i).all (tok vs)) && gok vs (rd p.fTests (i : Int)).fLeft && gok vs (rd p.fTests (i : Int)).fRight) = _
    have et : tok vs (rd p.fTests (i : Int)) = (gok vs (rd p.fTests (i : Int)).fLeft && gok vs (rd p.fTests (i : Int)).fRight) := rfl
    rw [et, Bool.and_assoc, Bool.and_assoc]
theorem att_slots {k : Nat} (hk : 200 ≤ k) {p : Pattern} {vs : List Int} (hv : I32 vs) (o : PatT p vs) : loop3 k (attribute_Ground.b0 k p vs p.fGraph.fNodes p.fGraph.fEdges) [] true 0 = some (groundS p vs) := by
  have lm : 5000 ≤ lim := by decide
  have hl := o.few.slots
  refine (loop3_out (P := fun r => r = _) (I := fun s u i => s = (p.fSlots.take i).map (gslot vs) ∧ u = (p.fSlots.take i).all (sok vs)) p.fSlots.length (fun s u hI rec => ?_) (fun s u i hi hI rec ih => ?_) k 0 [] true (Nat.zero_le _) (by omega) ⟨rfl, rfl⟩).eq
  · obtain ⟨rfl, rfl⟩ := hI
    rw [attribute_Ground.b0, decide_eq_false (show ¬ (p.fSlots.length : Int) < (p.fSlots.length : Int) by omega), cond_false, List.take_length, att_tests hk hv o]
    exact ⟨_, rfl, rfl⟩
  · obtain ⟨rfl, rfl⟩ := hI
    have hs : ((p.fSlots.take i).map (gslot vs)).length ≤ 15 := by rw [List.length_map, List.length_take]; omega
    rw [attribute_Ground.b0, decide_eq_true (show (i : Int) < (p.fSlots.length : Int) by omega), cond_true, gd ⟨by omega, by omega⟩]
    unfold jn; dsimp only
    rw [ground1 hv (o.slot i hi), Option.bind_some, gd (show _ ≤ lim by rw [List.length_singleton]; omega), gd (inR_nat (n := i) (by omega))]
    exact ih _ _ ⟨(map_take _ hi).symm, (all_take _ hi).symm⟩
theorem ref_tests {k : Nat} (hk : 200 ≤ k) {p : Pattern} {vs : List Int} (hv : I32 vs) (o : PatT p vs) :
    loop2 k (ref21_Ground.b1 k p vs p.fGraph (p.fSlots.map (gslot vs))) [] 0 =
      some (bif p.fTests.all (tok vs) then (Pattern.mk p.fGraph (p.fSlots.map (gslot vs)) 0 (p.fTests.map (gtest vs)), 0) else (noPat, 6)) := by
  have lm : 5000 ≤ lim := by decide
  have hl := o.few.tests
  refine (loop2_out (P := fun _ _ r => r = _) (I := fun s i => s = (p.fTests.take i).map (gtest vs) ∧ (p.fTests.take i).all (tok vs) = true) p.fTests.length (fun s hI rec => ?_) (fun s i hi hI rec ih => ?_) k 0 [] (Nat.zero_le _) (by omega) ⟨rfl, rfl⟩).eq
  · obtain ⟨rfl, h⟩ := hI
    rw [List.take_length] at h
    rw [ref21_Ground.b1, decide_eq_false (show ¬ (p.fTests.length : Int) < (p.fTests.length : Int) by omega), cond_false, List.take_length, h]
    exact ⟨_, rfl, rfl⟩
  · obtain ⟨rfl, h⟩ := hI
    have hs : ((p.fTests.take i).map (gtest vs)).length ≤ 15 := by rw [List.length_map, List.length_take]; omega
    have gi : (0 : Int) ≤ (i : Int) ∧ (i : Int) < (p.fTests.length : Int) := ⟨by omega, by omega⟩
    rw [ref21_Ground.b1, decide_eq_true gi.2, cond_true, gd gi, ref_ground hv (o.left i hi), Option.bind_some, gd gi, ref_ground hv (o.right i hi), Option.bind_some]
    unfold jn; dsimp only
    cases c : gok vs (rd p.fTests (i : Int)).fLeft with
    | false => rw [all_false hi (show tok vs (rd p.fTests (i : Int)) = false by unfold tok; rw [c]; rfl)]; exact ⟨_, rfl, rfl⟩
    | true =>
      cases d : gok vs (rd p.fTests (i : Int)).fRight with
      | false => rw [all_false hi (show tok vs (rd p.fTests (i : Int)) = false by unfold tok; rw [c, d]; rfl)]; exact ⟨_, rfl, rfl⟩
      | true =>
        rw [cond_true, bne_self_eq_false, cond_false, cond_true, bne_self_eq_false, cond_false, gd gi, gd (show _ ≤ lim by rw [List.length_singleton]; omega), gd (inR_nat (n := i) (by omega))]
        exact ih _ ⟨(map_take _ hi).symm, by rw [all_take _ hi, h]; unfold tok; rw [c, d]; rfl⟩
theorem ref_slots {k : Nat} (hk : 200 ≤ k) {p : Pattern} {vs : List Int} (hv : I32 vs) (o : PatT p vs) : loop2 k (ref21_Ground.b0 k p vs p.fGraph) [] 0 = some (groundS p vs) := by
  have lm : 5000 ≤ lim := by decide
  have hl := o.few.slots
  refine (loop2_out (P := fun _ _ r => r = _) (I := fun s i => s = (p.fSlots.take i).map (gslot vs) ∧ (p.fSlots.take i).all (sok vs) = true) p.fSlots.length (fun s hI rec => ?_) (fun s i hi hI rec ih => ?_) k 0 [] (Nat.zero_le _) (by omega) ⟨rfl, rfl⟩).eq
  · obtain ⟨rfl, h⟩ := hI
    rw [List.take_length] at h
    rw [ref21_Ground.b0, decide_eq_false (show ¬ (p.fSlots.length : Int) < (p.fSlots.length : Int) by omega), cond_false, List.take_length, ref_tests hk hv o]
    unfold groundS; rw [h]; exact ⟨_, rfl, rfl⟩
  · obtain ⟨rfl, h⟩ := hI
    have hs : ((p.fSlots.take i).map (gslot vs)).length ≤ 15 := by rw [List.length_map, List.length_take]; omega
    have gi : (0 : Int) ≤ (i : Int) ∧ (i : Int) < (p.fSlots.length : Int) := ⟨by omega, by omega⟩
    rw [ref21_Ground.b0, decide_eq_true gi.2, cond_true, gd gi, ref_ground hv (o.slot i hi), Option.bind_some]
    cases c : gok vs (rd p.fSlots (i : Int)).fTerm with
    | false =>
      have : groundS p vs = (noPat, 6) := by unfold groundS; rw [all_false hi (show sok vs (rd p.fSlots (i : Int)) = false from c)]; rfl
      rw [this]; exact ⟨_, rfl, rfl⟩
    | true =>
      rw [cond_true, bne_self_eq_false, cond_false, gd (show _ ≤ lim by rw [List.length_singleton]; omega), gd (inR_nat (n := i) (by omega))]
      exact ih _ ⟨(map_take _ hi).symm, by rw [all_take _ hi, h]; exact c⟩
theorem patT_of {t : Types} {p : Pattern} {vs : List Int} (hp : FewP p) (P : PatOk t p) (hl : (vs.length : Int) = p.fVars) : PatT p vs := by
  have term : ∀ x : Term, termB p.fVars x = true → TermOk vs x := fun x hx => by
    unfold termB at hx
    rw [Bool.and_eq_true, Bool.and_eq_true, Bool.and_eq_true, decide_eq_true_eq, decide_eq_true_eq, decide_eq_true_eq, decide_eq_true_eq] at hx
    exact ⟨by omega, hx.2.2.1, hx.2.2.2⟩
  have test : ∀ j : Nat, j < p.fTests.length → termB p.fVars (rd p.fTests (j : Int)).fLeft = true ∧ termB p.fVars (rd p.fTests (j : Int)).fRight = true := fun j hj => by
    have h := P.test j hj
    unfold testE at h
    cases c : ((rd p.fTests (j : Int)).fKind != 1 && (rd p.fTests (j : Int)).fKind != 2) with
    | true => rw [c] at h; cases h
    | false =>
      cases d : (termB p.fVars (rd p.fTests (j : Int)).fLeft && termB p.fVars (rd p.fTests (j : Int)).fRight) with
      | false => rw [c, d] at h; cases h
      | true => exact (Bool.and_eq_true _ _).mp d
  refine ⟨hp, fun j hj => ?_, fun j hj => term _ (test j hj).1, fun j hj => term _ (test j hj).2⟩
  have h := P.slot j hj
  unfold slotBad at h
  rw [Bool.or_eq_false_iff, Bool.or_eq_false_iff, Bool.not_eq_false', Bool.not_eq_false', Bool.not_eq_false', Bool.and_eq_true, Bool.and_eq_true, decide_eq_true_eq, decide_eq_true_eq, decide_eq_true_eq, decide_eq_true_eq] at h
  exact ⟨by omega, h.2.2.1, h.2.2.2⟩
theorem ref05_Same_self {k : Nat} (hk : 200 ≤ k) {g : Graph} (hg : FewG g) : ref05_Same k g g = some true := by
  have h1 := hg.nodes; have h2 := hg.edges
  unfold ref05_Same jn; dsimp only
  rw [SameInts_eq (by omega) (by omega) rfl (fun _ _ => rfl), Option.bind_some, Bool.not_true, cond_false, bne_self_eq_false, cond_false]
  refine loop1_eq (fun _ => true) g.fEdges.length (fun rec => ?_) (fun i hi rec ih => ?_) (Nat.zero_le _) (by omega)
  · rw [ref05_Same.b0, decide_eq_false (show ¬ (g.fEdges.length : Int) < (g.fEdges.length : Int) by omega), cond_false]
  · have gi : (0 : Int) ≤ (i : Int) ∧ (i : Int) < (g.fEdges.length : Int) := ⟨by omega, by omega⟩
    rw [ref05_Same.b0, decide_eq_true gi.2, cond_true, gd gi, gd gi, beq_self_eq_true, Bool.not_true, cond_false, gd (inR_nat (n := i) (by omega)), ih]
theorem lf_self : ∀ l : List Lf, (l == l) = true := fun l => by
  rw [beq_iff_eq]
theorem Same21_self {k : Nat} (hk : 200 ≤ k) {p : Pattern} (hp : FewP p) : ref21_Same k p p = some true := by
  have h1 := hp.slots; have h2 := hp.tests
  unfold ref21_Same jn; dsimp only
  rw [ref05_Same_self hk hp.graph, Option.bind_some, Bool.not_true, cond_false, bne_self_eq_false, cond_false, bne_self_eq_false, cond_false, bne_self_eq_false, cond_false]
  have inner : loop1 k (ref21_Same.b1 p p) 0 = some true := by
    refine loop1_eq (fun _ => true) p.fTests.length (fun rec => ?_) (fun i hi rec ih => ?_) (Nat.zero_le _) (by omega)
    · rw [ref21_Same.b1, decide_eq_false (show ¬ (p.fTests.length : Int) < (p.fTests.length : Int) by omega), cond_false]
    · have gi : (0 : Int) ≤ (i : Int) ∧ (i : Int) < (p.fTests.length : Int) := ⟨by omega, by omega⟩
      rw [ref21_Same.b1, decide_eq_true gi.2, cond_true, gd gi, gd gi, lf_self, Bool.not_true, cond_false, gd (inR_nat (n := i) (by omega)), ih]
  refine loop1_eq (fun _ => true) p.fSlots.length (fun rec => ?_) (fun i hi rec ih => ?_) (Nat.zero_le _) (by omega)
  · rw [ref21_Same.b0, decide_eq_false (show ¬ (p.fSlots.length : Int) < (p.fSlots.length : Int) by omega), cond_false, inner]
  · have gi : (0 : Int) ≤ (i : Int) ∧ (i : Int) < (p.fSlots.length : Int) := ⟨by omega, by omega⟩
    rw [ref21_Same.b0, decide_eq_true gi.2, cond_true, gd gi, gd gi, lf_self, Bool.not_true, cond_false, gd (inR_nat (n := i) (by omega)), ih]
theorem Ground_two {k : Nat} (hk : 1000 ≤ k) {t : Types} {p : Pattern} {vs : List Int} (ht : FewT t) (hp : FewP p) (hv : I32 vs) :
    ∃ r, attribute_Ground k t p vs = some r ∧ ref21_Ground k t p vs = some r ∧ FewP r.1 := by
  have lm : 5000 ≤ lim := by decide
  have g1 := hp.graph.nodes; have g2 := hp.graph.edges; have s1 := hp.slots; have s2 := hp.tests
  have none' : FewP noPat := ⟨⟨by decide, by decide⟩, by decide, by decide⟩
  unfold attribute_Ground ref21_Ground
  rw [valid_eq hk ht hp, ref_valid_eq hk ht hp, Option.bind_some, Option.bind_some]
  cases c : (patE t p != 0) with
  | true => exact ⟨_, rfl, rfl, none'⟩
  | false =>
    cases d : ((vs.length : Int) != p.fVars) with
    | true => exact ⟨_, rfl, rfl, none'⟩
    | false =>
      have P := pat_ok (show patE t p = 0 by simpa using c)
      have o := patT_of hp P (by simpa using d)
      unfold slices_Clone_int slices_Clone_Edge ref05_Copied
      rw [cond_false, cond_false, cond_false, cond_false, if_pos (show p.fGraph.fNodes.length ≤ lim by omega), if_pos (show p.fGraph.fEdges.length ≤ lim by omega), if_pos (show p.fGraph.fNodes.length ≤ lim by omega), if_pos (show p.fGraph.fEdges.length ≤ lim by omega), Option.bind_some, Option.bind_some, Option.bind_some]
      refine ⟨groundS p vs, att_slots (by omega) hv o, ref_slots (by omega) hv o, ?_⟩
      unfold groundS
      cases (p.fSlots.all (sok vs) && p.fTests.all (tok vs)) with
      | false => exact none'
      | true => exact ⟨hp.graph, by show (p.fSlots.map (gslot vs)).length ≤ 15; rw [List.length_map]; exact s1, by show (p.fTests.map (gtest vs)).length ≤ 15; rw [List.length_map]; exact s2⟩
theorem law_ground {k : Nat} (hk : 6000 ≤ k) (aw : law21_awake k = some true) (t : Types) (p : Pattern) (vs : List Int) (hA : ∀ n ∈ t.fNodes, n.fAttrs.length ≤ 140737488351232) (hv : I32 vs) : law21_AttributeGround k t p vs = some true := by
  have lm : 5000 ≤ lim := by decide
  unfold law21_AttributeGround jn; dsimp only
  obtain ⟨b, e, hb⟩ := ref04_Few_out (k := k) (by omega) hA
  rw [aw, Option.bind_some, Bool.not_true, cond_false, e, Option.bind_some]
  cases b with
  | false => rfl
  | true =>
    have ht := hb rfl
    rw [Bool.not_true, cond_false, few21_eq, Option.bind_some]
    cases c : ((decide ((p.fGraph.fNodes.length : Int) ≤ 45) && decide ((p.fGraph.fEdges.length : Int) ≤ 90)) && (decide ((p.fSlots.length : Int) ≤ 15) && decide ((p.fTests.length : Int) ≤ 15))) with
    | false => rfl
    | true =>
      rw [Bool.and_eq_true, Bool.and_eq_true, Bool.and_eq_true, decide_eq_true_eq, decide_eq_true_eq, decide_eq_true_eq, decide_eq_true_eq] at c
      rw [Bool.not_true, cond_false]
      have hp : FewP p := ⟨⟨by omega, by omega⟩, by omega, by omega⟩
      by_cases d : (vs.length : Int) > 20
      · rw [decide_eq_true d]; rfl
      · rw [decide_eq_false d, cond_false]
        refine (loop2_out (P := fun _ _ r => r = true) (I := fun s i => s = vs.take i) vs.length (fun s hI rec => ?_) (fun s i hi hI rec ih => ?_) k 0 [] (Nat.zero_le _) (by omega) rfl).eq
        · subst hI
          obtain ⟨r, e1, e2, hr⟩ := Ground_two (k := k) (by omega) ht hp hv
          rw [law21_AttributeGround.b0, decide_eq_false (show ¬ (vs.length : Int) < (vs.length : Int) by omega), cond_false, List.take_length, copied21 hp, Option.bind_some]
          unfold slices_Clone_int jn; dsimp only
          rw [if_pos (show vs.length ≤ lim by omega), Option.bind_some, e1, e2, Option.bind_some, Option.bind_some, beq_self_eq_true, cond_true, Same21_self (by omega) hr]
          exact ⟨_, rfl, rfl⟩
        · subst hI
          have hm := hv _ (rd_mem (l := vs) (x := (i : Int)) (by omega) (by omega))
          rw [law21_AttributeGround.b0, decide_eq_true (show (i : Int) < (vs.length : Int) by omega), cond_true, gd ⟨by omega, by omega⟩, gd (show _ ≤ lim by rw [List.length_singleton, List.length_take]; omega), gd (inR_nat (n := i) (by omega)), wrap_inR (show inR (rd vs (i : Int)) by unfold inR; omega)]
          exact ih _ (take_rdA hi).symm
end Go.Proofs.YtcgdfjpeboiioaaGreat
