/- Names: both scanners say the same of short strings. -/
import Derived.Test.YtcgdfjpeboiioaaGreatS1
namespace Go.Proofs.YtcgdfjpeboiioaaGreat
open Go Go.Abs

def letterB (c : Int) : Bool := (decide (c ≥ 97) && decide (c ≤ 122)) || (decide (c ≥ 65) && decide (c ≤ 90))
def digitB (c : Int) : Bool := decide (c ≥ 48) && decide (c ≤ 57)
def partB (c : Int) : Bool := (letterB c || digitB c) || c == 95
theorem token_letter_eq {k : Nat} (c : Int) : token_letter k c = some (letterB c) := by
  simp only [token_letter, jn, letterB]
  cases decide (c ≥ 97) <;> cases decide (c ≤ 122) <;> cases decide (c ≥ 65) <;> rfl
theorem ref01_letter_eq {k : Nat} (c : Int) : ref01_letter k c = some (letterB c) := by
  simp only [ref01_letter, jn, letterB]
  cases decide (c ≥ 97) <;> cases decide (c ≤ 122) <;> cases decide (c ≥ 65) <;> rfl
theorem token_digit_eq {k : Nat} (c : Int) : token_digit k c = some (digitB c) := by
  simp only [token_digit, jn, digitB]
  cases decide (c ≥ 48) <;> rfl
theorem ref01_digit_eq {k : Nat} (c : Int) : ref01_digit k c = some (digitB c) := by
  simp only [ref01_digit, jn, digitB]
  cases decide (c ≥ 48) <;> rfl
theorem token_part_eq {k : Nat} (c : Int) : token_part k c = some (partB c) := by
  simp only [token_part, jn, partB, token_letter_eq, token_digit_eq, Option.bind_some]
  cases letterB c <;> cases digitB c <;> rfl
theorem letter_not_digit {c : Int} (h : letterB c = true) : digitB c = false := by
  simp only [letterB, digitB, Bool.or_eq_true, Bool.and_eq_true, decide_eq_true_eq, Bool.and_eq_false_iff, decide_eq_false_iff_not] at *
  omega

def stopF (p : Nat → Bool) : Nat → Nat → Nat
  | i, 0 => i
  | i, d + 1 => bif p i then stopF p (i + 1) d else i
def stopN (p : Nat → Bool) (i n : Nat) : Nat := stopF p i (n - i)
theorem stopN_end {p : Nat → Bool} {n : Nat} : stopN p n n = n := by simp [stopN, stopF]
theorem stopN_step {p : Nat → Bool} {i n : Nat} (h : i < n) : stopN p i n = bif p i then stopN p (i + 1) n else i := by
  have : n - i = (n - (i + 1)) + 1 := by omega
  unfold stopN; rw [this]; rfl
theorem stopF_le {p : Nat → Bool} : ∀ {d i : Nat}, stopF p i d ≤ i + d
  | 0, i => by simp [stopF]
  | d + 1, i => by
    have := stopF_le (p := p) (d := d) (i := i + 1)
    unfold stopF; cases p i <;> simp <;> omega
theorem stopN_le {p : Nat → Bool} {n : Nat} : stopN p 0 n ≤ n := by have := stopF_le (p := p) (d := n) (i := 0); simpa [stopN] using this
theorem stopN_congr {p q : Nat → Bool} {n : Nat} : ∀ {i : Nat}, (∀ j, p j = q j) → stopN p i n = stopN q i n := by
  intro i h; have : p = q := funext h; rw [this]

theorem token_run_eq {k : Nat} (s : Str) (f : Int → Option Bool) (p : Nat → Bool) (hk : s.length < k) (hs : s.length ≤ 1000000)
    (hf : ∀ j, j < s.length → f (bt s (j : Int)) = some (p j)) : token_run k s f = some (stopN p 0 s.length : Int) := by
  refine loop1_eq (fun i => (stopN p i s.length : Int)) s.length (fun rec => ?_) (fun i hi rec ih => ?_) (Nat.zero_le _) (by omega)
  · simp [token_run.b0, jn, stopN_end]
  · rw [stopN_step hi]
    simp only [token_run.b0, jn, hf i hi, Option.bind_some]
    have : decide ((i : Int) < (s.length : Int)) = true := by simp [hi]
    rw [this, cond_true, gd (by omega), gd (inR_nat (by omega))]
    cases p i <;> simp [ih]
theorem ref01_run_eq {k : Nat} (s : Str) (dg : Bool) (hk : s.length < k) (hs : s.length ≤ 1000000) :
    ref01_run k s 0 dg = some (stopN (fun j => digitB (bt s (j : Int)) || (!dg && (letterB (bt s (j : Int)) || (bt s (j : Int)) == 95))) 0 s.length : Int) := by
  refine loop1_eq (fun i => (stopN _ i s.length : Int)) s.length (fun rec => ?_) (fun i hi rec ih => ?_) (Nat.zero_le _) (by omega)
  · simp only [ref01_run.b0, jn, stopN_end, Int.zero_add]
    rw [gd (inR_of (by omega))]
    simp
  · rw [stopN_step hi]
    have : decide ((i : Int) < (s.length : Int)) = true := by simp [hi]
    have h1 : inR (i : Int) := inR_of (by omega)
    have h2 : (0 : Int) ≤ (i : Int) ∧ (i : Int) < (s.length : Int) := by omega
    simp only [ref01_run.b0, jn, Int.zero_add, gd h1, gd h2, this, cond_true, ref01_digit_eq, ref01_letter_eq, Option.bind_some, gd (inR_nat (n := i) (by omega)), ih]
    cases digitB (bt s (i : Int)) <;> cases dg <;> cases letterB (bt s (i : Int)) <;> cases (bt s (i : Int) == 95) <;> rfl

def isNameB (s : Str) : Bool := (s != []) && (letterB (bt s 0) && (decide (stopN (fun j => partB (bt s (j : Int))) 0 s.length ≤ 20) && stopN (fun j => partB (bt s (j : Int))) 0 s.length == s.length))

theorem token_quoted_out {k : Nat} (s : Str) (h0 : 1 ≤ s.length) (hk : s.length < k) (hs : s.length ≤ 1000000) : Out (token_quoted k s) (fun _ => True) := by
  unfold token_quoted
  rw [gd (by omega)]
  have hd : (s.drop (1 : Int).toNat).length = s.length - 1 := by simp
  refine Out.bind (P := fun r => 0 ≤ r ∧ r ≤ (s.length : Int) - 1) ⟨_, token_run_eq (p := fun j => (decide (bt (s.drop (1 : Int).toNat) (j : Int) ≥ 32) && (decide (bt (s.drop (1 : Int).toNat) (j : Int) ≤ 126) && (bt (s.drop (1 : Int).toNat) (j : Int)) != 34))) _ _ (by omega) (by omega) (fun j _ => ?_), ?_⟩ fun r hr => ?_
  · simp only [token_quoted_1, jn]
    cases decide (bt (s.drop (1 : Int).toNat) (j : Int) ≥ 32) <;> cases decide (bt (s.drop (1 : Int).toNat) (j : Int) ≤ 126) <;> rfl
  · refine ⟨by omega, ?_⟩
    have h := stopN_le (p := fun j => (decide (bt (s.drop (1 : Int).toNat) (j : Int) ≥ 32) && (decide (bt (s.drop (1 : Int).toNat) (j : Int) ≤ 126) && (bt (s.drop (1 : Int).toNat) (j : Int)) != 34))) (n := (s.drop (1 : Int).toNat).length)
    rw [hd] at h ⊢
    omega
  · simp only [jn]
    rw [gd (inR_of (by omega))]
    cases hb : (1 + r == (s.length : Int)) with
    | true => exact ⟨_, rfl, trivial⟩
    | false =>
      have : 1 + r ≠ (s.length : Int) := by simpa using hb
      rw [cond_false, gd (inR_of (by omega)), gd (by omega)]
      cases (bt s (1 + r) != 34) with
      | true => exact ⟨_, rfl, trivial⟩
      | false =>
        rw [cond_false]
        cases decide (r > 60) with
        | true => exact ⟨_, rfl, trivial⟩
        | false => rw [cond_false, gd (inR_of (by omega))]; exact ⟨_, rfl, trivial⟩
theorem token_pair_out {k : Nat} (s : Str) (hk : 10 ≤ k) : Out (token_pair k s) (fun _ => True) := by
  unfold token_pair; simp only [jn]
  cases hb : decide ((s.length : Int) ≥ 2) with
  | false => exact ⟨_, rfl, trivial⟩
  | true =>
    simp at hb
    rw [cond_true, gd (by omega), Contains_string _ _ (by simp; omega) (by simp)]
    exact ⟨_, rfl, trivial⟩
theorem token_next_out {k : Nat} (s : Str) (h0 : 1 ≤ s.length) (hk : s.length < k) (hk' : 10 ≤ k) (hs : s.length ≤ 1000000) (hl : letterB (bt s 0) = false) :
    Out (token_next k s) (fun r => r.2.2 ≠ 0 ∨ r.1 ≠ 1) := by
  unfold token_next
  rw [gd (by omega), token_letter_eq, Option.bind_some, hl, cond_false, token_digit_eq, Option.bind_some]
  cases digitB (bt s 0) with
  | true =>
    rw [cond_true, token_run_eq (p := fun j => digitB (bt s (j : Int))) _ _ hk hs (fun j _ => token_digit_eq _), Option.bind_some]
    cases decide ((stopN (fun j => digitB (bt s (j : Int))) 0 s.length : Int) > 9)
    · exact ⟨_, rfl, .inr (by simp)⟩
    · exact ⟨_, rfl, .inl (by simp)⟩
  | false =>
    rw [cond_false]
    cases (bt s 0 == 34) with
    | true => rw [cond_true]; exact Out.bind (token_quoted_out s h0 hk hs) fun r _ => ⟨_, rfl, .inr (by simp)⟩
    | false =>
      rw [cond_false]
      refine Out.bind (token_pair_out s hk') fun r _ => ?_
      cases r with
      | true => exact ⟨_, rfl, .inr (by simp)⟩
      | false =>
        simp only [cond_false, strings_IndexByte, stringslite_IndexByte, Option.bind_some]
        generalize decide (_ ≥ (0 : Int)) = b
        cases b
        · exact ⟨_, rfl, .inl (by decide)⟩
        · exact ⟨_, rfl, .inr (by decide)⟩

theorem token_IsName_eq {k : Nat} (hk : 200 ≤ k) (s : Str) (hs : s.length ≤ 100) : token_IsName k s = some (isNameB s) := by
  unfold token_IsName token_whole jn; dsimp only
  rw [show ((1 : Int) == 3) = false from rfl, cond_false]
  cases s with
  | nil => simp [isNameB]
  | cons c t =>
    rw [show (((c :: t : Str) == ([] : Str))) = false from rfl, cond_false]
    generalize hS : (c :: t : Str) = s at *
    have h0 : 1 ≤ s.length := by subst hS; simp
    have hne : (s != []) = true := by subst hS; rfl
    cases hl : letterB (bt s 0) with
    | true =>
      unfold token_next
      rw [gd (by omega), token_letter_eq, Option.bind_some, hl, cond_true, token_run_eq (p := fun j => partB (bt s (j : Int))) _ _ (by omega) (by omega) (fun j _ => token_part_eq _), Option.bind_some]
      simp only [isNameB, hne, hl, Bool.true_and]
      by_cases hg : stopN (fun j => partB (bt s (j : Int))) 0 s.length ≤ 20
      · have h1 : decide ((stopN (fun j => partB (bt s (j : Int))) 0 s.length : Int) > 20) = false := by simp; omega
        rw [h1, cond_false, decide_eq_true hg]
        simp only [Option.bind_some, Bool.true_and, beq_self_eq_true, cond_true]
        congr 1
        rw [Bool.eq_iff_iff, beq_iff_eq, beq_iff_eq]; omega
      · have h1 : decide ((stopN (fun j => partB (bt s (j : Int))) 0 s.length : Int) > 20) = true := by simp; omega
        rw [h1, cond_true, decide_eq_false hg]
        rfl
    | false =>
      obtain ⟨r, e, h⟩ := token_next_out (k := k) s h0 (by omega) (by omega) (by omega) hl
      rw [e, Option.bind_some]
      simp only [isNameB, hne, hl, Bool.true_and, Bool.false_and]
      rcases h with h | h
      · have : (r.2.2 == 0) = false := by simp [h]
        rw [this]; rfl
      · have : (r.1 == 1) = false := by simp [h]
        rw [this]; cases (r.2.2 == 0) <;> rfl

theorem ref01_quoted_out {k : Nat} (s : Str) (h0 : 1 ≤ s.length) (hk : s.length < k) (hs : s.length ≤ 1000000) : Out (ref01_quoted k s 0) (fun r => r = 0 ∨ (2 ≤ r ∧ r ≤ (s.length : Int))) := by
  refine loop1_out (I := fun i => 1 ≤ i) (P := fun _ r => r = 0 ∨ (2 ≤ r ∧ r ≤ (s.length : Int))) s.length (fun _ rec => ?_) (fun i hi h1 rec ih => ?_) k 1 h0 (by omega) (by omega)
  · simp only [ref01_quoted.b0, jn, Int.zero_add]
    rw [gd (inR_of (by omega))]
    refine ⟨0, by simp, .inl rfl⟩
  · have : decide ((i : Int) < (s.length : Int)) = true := by simp [hi]
    have g1 : inR (i : Int) := inR_of (by omega)
    have g2 : (0 : Int) ≤ (i : Int) ∧ (i : Int) < (s.length : Int) := by omega
    simp only [ref01_quoted.b0, jn, Int.zero_add, gd g1, gd g2, this, cond_true, gd (inR_nat (n := i) (by omega))]
    cases (bt s (i : Int) == 34) with
    | true => exact ⟨_, rfl, .inr (by omega)⟩
    | false =>
      rw [cond_false]
      cases decide (bt s (i : Int) < 32) with
      | true => exact ⟨_, rfl, .inl rfl⟩
      | false =>
        cases decide (bt s (i : Int) > 126) with
        | true => exact ⟨_, rfl, .inl rfl⟩
        | false => exact ih (by omega)
theorem ref01_one_out {k : Nat} (s : Str) (h0 : 1 ≤ s.length) (hk : s.length < k) (hk' : 100 ≤ k) (hs : s.length ≤ 1000000) (hl : letterB (bt s 0) = false) :
    Out (ref01_one k s 0) (fun r => r.2.2 ≠ 0 ∨ r.1.fKind ≠ 1) := by
  unfold ref01_one; simp only [jn]
  rw [gd (by omega)]
  simp only [ref01_letter_eq, ref01_digit_eq, Option.bind_some, hl, cond_false]
  cases hd : digitB (bt s 0) with
  | true =>
    rw [cond_true, ref01_run_eq _ _ hk hs, Option.bind_some]
    have hle := stopN_le (p := fun j => digitB (bt s (j : Int)) || (!true && (letterB (bt s (j : Int)) || (bt s (j : Int)) == 95))) (n := s.length)
    generalize hn : stopN (fun j => digitB (bt s (j : Int)) || (!true && (letterB (bt s (j : Int)) || (bt s (j : Int)) == 95))) 0 s.length = n at *
    rw [cond_true]
    cases decide ((n : Int) > 9) with
    | true => exact ⟨_, rfl, .inl (by simp)⟩
    | false =>
      rw [cond_false, gd (inR_of (by omega)), gd (by omega)]
      exact ⟨_, rfl, .inr (by simp)⟩
  | false =>
    rw [cond_false]
    cases (bt s 0 == 34) with
    | true =>
      rw [cond_true]
      refine Out.bind (ref01_quoted_out s h0 hk hs) fun r hr => ?_
      cases hz : (r == 0) with
      | true => exact ⟨_, rfl, .inl (by simp)⟩
      | false =>
        have hz' : r ≠ 0 := by simpa using hz
        rw [cond_false, gd (inR_of (by omega))]
        cases decide (r - 2 > 60) with
        | true => exact ⟨_, rfl, .inl (by simp)⟩
        | false =>
          rw [cond_false, gd (inR_of (by omega)), gd (inR_of (by omega)), gd (inR_of (by omega)), gd (by omega)]
          exact ⟨_, rfl, .inr (by simp)⟩
    | false =>
      rw [cond_false, ref01_signs, Option.bind_some]
      generalize hL : ([([45, 62] : Str), ([60, 61] : Str), ([62, 61] : Str), ([61, 61] : Str), ([33, 61] : Str), ([123] : Str), ([125] : Str), ([40] : Str), ([41] : Str), ([91] : Str), ([93] : Str), ([44] : Str), ([59] : Str), ([58] : Str), ([61] : Str), ([43] : Str), ([45] : Str), ([42] : Str), ([60] : Str), ([62] : Str), ([33] : Str), ([38] : Str), ([124] : Str), ([46] : Str), ([63] : Str)] : List Str) = L
      have hLl : L.length = 25 := by subst hL; rfl
      have hLe : ∀ x ∈ L, x.length ≤ 2 := by subst hL; decide
      refine loop1_out (I := fun _ => True) (P := fun _ (r : Token × Int × Int) => r.2.2 ≠ 0 ∨ r.1.fKind ≠ 1) L.length (fun _ rec => ?_) (fun i hi h1 rec ih => ?_) k 0 (Nat.zero_le _) (by omega) trivial
      · exact ⟨(Token.mk 0 [] 0, 0, 2), by simp [ref01_one.b0], .inl (by simp)⟩
      · have : decide ((i : Int) < (L.length : Int)) = true := by simp [hi]
        have g2 : (0 : Int) ≤ (i : Int) ∧ (i : Int) < (L.length : Int) := by omega
        have g3 := hLe _ (rd_mem g2.1 g2.2)
        have g4 : inR ((rd L (i : Int)).length : Int) := inR_of (by omega)
        simp only [ref01_one.b0, jn, Int.zero_add, gd g2, this, cond_true, gd (inR_nat (n := i) (by omega)), gd g4]
        cases hb : decide (((rd L (i : Int)).length : Int) ≤ (s.length : Int)) with
        | false => rw [cond_false, cond_false]; exact ih trivial
        | true =>
          have hb' : ((rd L (i : Int)).length : Int) ≤ (s.length : Int) := by simpa using hb
          rw [cond_true, gd (by omega)]
          generalize (List.drop _ (s.take _) == rd L (i : Int)) = q
          cases q with
          | true => exact ⟨_, rfl, .inr (by simp)⟩
          | false => exact ih trivial
theorem ref01_IsName_eq {k : Nat} (hk : 200 ≤ k) (s : Str) (hs : s.length ≤ 100) : ref01_IsName k s = some (isNameB s) := by
  unfold ref01_IsName ref01_Right ref01_text
  rw [show ((1 : Int) == 3) = false from rfl, cond_false, Option.bind_some]
  cases s with
  | nil => simp [isNameB]
  | cons c t =>
    rw [show (((c :: t : Str) == ([] : Str))) = false from rfl, cond_false]
    generalize hS : (c :: t : Str) = s at *
    have h0 : 1 ≤ s.length := by subst hS; simp
    have hne : (s != []) = true := by subst hS; rfl
    cases hl : letterB (bt s 0) with
    | true =>
      unfold ref01_one; simp only [jn]
      rw [gd (by omega)]
      simp only [ref01_letter_eq, ref01_digit_eq, Option.bind_some, hl, cond_true, letter_not_digit hl, cond_false]
      rw [ref01_run_eq _ _ (by omega) (by omega), Option.bind_some]
      have hc := stopN_congr (p := fun j => digitB (bt s (j : Int)) || (!false && (letterB (bt s (j : Int)) || (bt s (j : Int)) == 95))) (q := fun j => partB (bt s (j : Int))) (n := s.length) (i := 0)
        (fun j => by simp only [partB]; cases digitB (bt s (j : Int)) <;> cases letterB (bt s (j : Int)) <;> rfl)
      rw [hc]
      have hle := stopN_le (p := fun j => partB (bt s (j : Int))) (n := s.length)
      simp only [isNameB, hne, hl, Bool.true_and]
      generalize stopN (fun j => partB (bt s (j : Int))) 0 s.length = n at *
      by_cases hg : n ≤ 20
      · have h1 : decide ((n : Int) > 20) = false := by simp; omega
        rw [h1, cond_false, decide_eq_true hg, gd (inR_of (by omega)), gd (by omega)]
        simp only [Option.bind_some, Bool.true_and, beq_self_eq_true, cond_true]
        have h2 : ((n : Int) == (s.length : Int)) = (n == s.length) := by rw [Bool.eq_iff_iff, beq_iff_eq, beq_iff_eq]; omega
        rw [h2]; cases (n == s.length) <;> rfl
      · have h1 : decide ((n : Int) > 20) = true := by simp; omega
        rw [h1, cond_true, decide_eq_false hg]
        rfl
    | false =>
      obtain ⟨r, e, h⟩ := ref01_one_out (k := k) s h0 (by omega) (by omega) (by omega) hl
      rw [e, Option.bind_some]
      simp only [jn, isNameB, hne, hl, Bool.true_and, Bool.false_and]
      rcases h with h | h
      · have : (r.2.2 == 0) = false := by simp [h]
        rw [this]; rfl
      · have : (r.1.fKind == 1) = false := by simp [h]
        rw [this]; cases (r.2.2 == 0) <;> cases (r.2.1 == (s.length : Int)) <;> rfl
end Go.Proofs.YtcgdfjpeboiioaaGreat
