import Derived.Test.YtcgdfjpeboiioaaGreatVaD
namespace Go.Proofs.YtcgdfjpeboiioaaGreat
open Go Go.Abs
def Out {R : Type} (x : Option R) (P : R → Prop) : Prop := ∃ r, x = some r ∧ P r
theorem Out.some {R : Type} {r : R} {P : R → Prop} (h : P r) : Out (some r) P := ⟨r, rfl, h⟩
theorem Out.bind {R S : Type} {x : Option R} {f : R → Option S} {P : R → Prop} {Q : S → Prop} (h : Out x P) (g : ∀ r, P r → Out (f r) Q) : Out (x.bind f) Q := by
  obtain ⟨r, rfl, hr⟩ := h; exact g r hr
theorem Out.eq {R : Type} {x : Option R} {r : R} (h : Out x (· = r)) : x = Option.some r := by obtain ⟨t, rfl, rfl⟩ := h; rfl
theorem Out.mono {R : Type} {x : Option R} {P Q : R → Prop} (h : Out x P) (g : ∀ r, P r → Q r) : Out x Q := by obtain ⟨r, e, hr⟩ := h; exact ⟨r, e, g r hr⟩
theorem gd {R : Type} {p : Prop} [Decidable p] (h : p) (x : Option R) : (if p then x else none) = x := if_pos h
theorem loop1_out {R : Type} {b : (Int → Option R) → Int → Option R} {I : Nat → Prop} {P : Nat → R → Prop} (n : Nat)
    (hend : I n → ∀ rec, Out (b rec (n : Int)) (P n))
    (hstep : ∀ i, i < n → I i → ∀ rec : Int → Option R, (I (i + 1) → Out (rec ((i : Int) + 1)) (P (i + 1))) → Out (b rec (i : Int)) (P i)) :
    ∀ k i : Nat, i ≤ n → n < k + i → I i → Out (loop1 k b (i : Int)) (P i)
  | 0, i, h, hk, _ => by omega
  | k + 1, i, h, hk, hi => by
    rcases Nat.lt_or_ge i n with hl | hl
    · refine hstep i hl hi _ fun hI => ?_
      have := loop1_out n hend hstep k (i + 1) hl (by omega) hI
      simpa using this
    · have : i = n := by omega
      subst this
      exact hend hi _
theorem loop1_eq {R : Type} {b : (Int → Option R) → Int → Option R} (F : Nat → R) (n : Nat)
    (hend : ∀ rec, b rec (n : Int) = some (F n))
    (hstep : ∀ i, i < n → ∀ rec : Int → Option R, rec ((i : Int) + 1) = some (F (i + 1)) → b rec (i : Int) = some (F i))
    {k i : Nat} (hi : i ≤ n) (hk : n < k + i) : loop1 k b (i : Int) = some (F i) :=
  (loop1_out (I := fun _ => True) (P := fun i r => r = F i) n (fun _ rec => ⟨_, hend rec, rfl⟩)
    (fun i hi _ rec h => ⟨_, hstep i hi rec (h trivial).eq, rfl⟩) k i hi hk trivial).eq
theorem loop2_out {S R : Type} {b : (S → Int → Option R) → S → Int → Option R} {P : S → Nat → R → Prop} {I : S → Nat → Prop} (n : Nat)
    (hend : ∀ s, I s n → ∀ rec, Out (b rec s (n : Int)) (P s n))
    (hstep : ∀ s i, i < n → I s i → ∀ rec : S → Int → Option R, (∀ s', I s' (i + 1) → Out (rec s' ((i : Int) + 1)) (P s' (i + 1))) → Out (b rec s (i : Int)) (P s i)) :
    ∀ (k i : Nat) (s : S), i ≤ n → n < k + i → I s i → Out (loop2 k b s (i : Int)) (P s i)
  | 0, i, s, h, hk, _ => by omega
  | k + 1, i, s, h, hk, hi => by
    rcases Nat.lt_or_ge i n with hl | hl
    · refine hstep s i hl hi _ fun s' hI => ?_
      have := loop2_out n hend hstep k (i + 1) s' hl (by omega) hI
      simpa using this
    · have : i = n := by omega
      subst this
      exact hend s hi _
def scanF (e : Nat → Int) : Nat → Nat → Int
  | _, 0 => 0
  | i, d + 1 => bif e i != 0 then e i else scanF e (i + 1) d
def scan (e : Nat → Int) (i n : Nat) : Int := scanF e i (n - i)
theorem scan_end {e : Nat → Int} {n : Nat} : scan e n n = 0 := by simp [scan, scanF]
theorem scan_step {e : Nat → Int} {i n : Nat} (h : i < n) : scan e i n = bif e i != 0 then e i else scan e (i + 1) n := by
  have : n - i = (n - (i + 1)) + 1 := by omega
  unfold scan; rw [this]; rfl
theorem scan_zero {e : Nat → Int} {n : Nat} : ∀ {i : Nat}, scan e i n = 0 → ∀ j, i ≤ j → j < n → e j = 0 := by
  intro i
  induction hd : n - i generalizing i with
  | zero => intro _ j h1 h2; omega
  | succ d ih =>
    intro h j h1 h2
    rw [scan_step (by omega)] at h
    by_cases he : e i = 0
    · rcases Nat.eq_or_lt_of_le h1 with rfl | h3
      · exact he
      · simp [he] at h
        exact ih (i := i + 1) (by omega) h j h3 h2
    · exfalso
      have : (e i != 0) = true := by simp [he]
      rw [this] at h; exact he h
def anyF (p : Nat → Bool) : Nat → Nat → Bool
  | _, 0 => false
  | i, d + 1 => p i || anyF p (i + 1) d
def anyN (p : Nat → Bool) (i n : Nat) : Bool := anyF p i (n - i)
theorem anyN_end {p : Nat → Bool} {n : Nat} : anyN p n n = false := by simp [anyN, anyF]
theorem anyN_step {p : Nat → Bool} {i n : Nat} (h : i < n) : anyN p i n = (p i || anyN p (i + 1) n) := by
  have : n - i = (n - (i + 1)) + 1 := by omega
  unfold anyN; rw [this]; rfl
theorem anyN_iff {p : Nat → Bool} {n : Nat} : ∀ {i : Nat}, anyN p i n = true ↔ ∃ j, i ≤ j ∧ j < n ∧ p j = true := by
  intro i
  induction hd : n - i generalizing i with
  | zero =>
    have : anyN p i n = false := by simp [anyN, anyF, hd]
    rw [this]; constructor
    · intro h; cases h
    · rintro ⟨j, h1, h2, _⟩; omega
  | succ d ih =>
    rw [anyN_step (by omega), Bool.or_eq_true, ih (i := i + 1) (by omega)]
    constructor
    · rintro (h | ⟨j, h1, h2, h3⟩)
      · exact ⟨i, Nat.le_refl _, by omega, h⟩
      · exact ⟨j, by omega, h2, h3⟩
    · rintro ⟨j, h1, h2, h3⟩
      rcases Nat.eq_or_lt_of_le h1 with rfl | h4
      · exact .inl h3
      · exact .inr ⟨j, h4, h2, h3⟩
theorem anyN_congr {p q : Nat → Bool} {i n : Nat} (h : ∀ j, i ≤ j → j < n → p j = q j) : anyN p i n = anyN q i n := by
  rw [Bool.eq_iff_iff, anyN_iff, anyN_iff]
  exact ⟨fun ⟨j, a, b, c⟩ => ⟨j, a, b, h j a b ▸ c⟩, fun ⟨j, a, b, c⟩ => ⟨j, a, b, (h j a b).symm ▸ c⟩⟩
theorem inR_of {x : Int} (h : -9223372036854775808 ≤ x ∧ x ≤ 9223372036854775807) : inR x := h
theorem inR_nat {n : Nat} (h : n ≤ 1000000) : inR ((n : Int) + 1) := by unfold inR; omega
theorem rd_take {α : Type} [Inhabited α] {l : List α} {i j : Nat} (h : j < i) : rd (l.take i) (j : Int) = rd l (j : Int) := by
  simp [rd, List.getD, List.getElem?_take, h]
theorem rd_mem {α : Type} [Inhabited α] {l : List α} {x : Int} (h0 : 0 ≤ x) (h : x < (l.length : Int)) : rd l x ∈ l := by
  have : x.toNat < l.length := by omega
  simp [rd, List.getD, List.getElem?_eq_getElem this]
def ixb {α : Type} [Inhabited α] (a0 : List α) (a1 : α → Option Bool) (rec0 : Int → Option Int) (x8 : Int) : Option Int :=
  (bif (decide (x8 < (a0.length : Int))) then (if (0 : Int) ≤ x8 ∧ x8 < (a0.length : Int) then ((a1 (rd a0 x8)).bind fun t32 => (bif t32 then (some x8) else (if inR (x8 + 1) then (rec0 (x8 + 1)) else none))) else none) else (some (-1)))
theorem ix_contains {α : Type} [Inhabited α] (l : List α) (f : α → Option Bool) (p : Nat → Bool) (k : Nat) (hk : l.length < k) (hl : l.length ≤ 1000000)
    (hf : ∀ j, j < l.length → f (rd l (j : Int)) = some (p j)) :
    ((loop1 k (ixb l f) 0).bind fun t => some (decide (t ≥ 0))) = some (anyN p 0 l.length) := by
  obtain ⟨r, e, h⟩ := loop1_out (I := fun _ => True) (P := fun i r => decide (r ≥ 0) = anyN p i l.length) (b := ixb l f) l.length
    (fun _ rec => ⟨-1, by simp [ixb], by rw [anyN_end]; decide⟩)
    (fun i hi _ rec ih => by
      rw [anyN_step hi]
      simp only [ixb, hf i hi, Option.bind_some]
      rw [gd (inR_nat (by omega)), gd (by omega)]
      have : decide ((i : Int) < (l.length : Int)) = true := by simp [hi]
      rw [this, cond_true]
      cases hp : p i with
      | true => exact ⟨_, rfl, by simp⟩
      | false => simpa using ih trivial)
    k 0 (Nat.zero_le _) (by omega) trivial
  have e' : loop1 k (ixb l f) 0 = some r := e
  rw [e', Option.bind_some, h]
theorem ContainsFunc_int {k : Nat} (l : List Int) (f : Int → Option Bool) (p : Nat → Bool) (hk : l.length < k) (hl : l.length ≤ 1000000)
    (hf : ∀ j, j < l.length → f (rd l (j : Int)) = some (p j)) : slices_ContainsFunc_int k l f = some (anyN p 0 l.length) := ix_contains l f p k hk hl hf
theorem ContainsFunc_Edge {k : Nat} (l : List Edge) (f : Edge → Option Bool) (p : Nat → Bool) (hk : l.length < k) (hl : l.length ≤ 1000000)
    (hf : ∀ j, j < l.length → f (rd l (j : Int)) = some (p j)) : slices_ContainsFunc_Edge k l f = some (anyN p 0 l.length) := ix_contains l f p k hk hl hf
theorem ContainsFunc_NodeType {k : Nat} (l : List NodeType) (f : NodeType → Option Bool) (p : Nat → Bool) (hk : l.length < k) (hl : l.length ≤ 1000000)
    (hf : ∀ j, j < l.length → f (rd l (j : Int)) = some (p j)) : slices_ContainsFunc_NodeType k l f = some (anyN p 0 l.length) := ix_contains l f p k hk hl hf
theorem ContainsFunc_Attr {k : Nat} (l : List Attr) (f : Attr → Option Bool) (p : Nat → Bool) (hk : l.length < k) (hl : l.length ≤ 1000000)
    (hf : ∀ j, j < l.length → f (rd l (j : Int)) = some (p j)) : slices_ContainsFunc_Attr k l f = some (anyN p 0 l.length) := ix_contains l f p k hk hl hf
theorem ContainsFunc_EdgeType {k : Nat} (l : List EdgeType) (f : EdgeType → Option Bool) (p : Nat → Bool) (hk : l.length < k) (hl : l.length ≤ 1000000)
    (hf : ∀ j, j < l.length → f (rd l (j : Int)) = some (p j)) : slices_ContainsFunc_EdgeType k l f = some (anyN p 0 l.length) := ix_contains l f p k hk hl hf
theorem Contains_string {k : Nat} (l : List Str) (a : Str) (hk : l.length < k) (hl : l.length ≤ 1000000) :
    slices_Contains_string k l a = some (anyN (fun j => a == rd l (j : Int)) 0 l.length) := ix_contains l (fun x => some (a == x)) _ k hk hl (fun _ _ => rfl)
def letterB (c : Int) : Bool := (decide (c ≥ 97) && decide (c ≤ 122)) || (decide (c ≥ 65) && decide (c ≤ 90))
def digitB (c : Int) : Bool := decide (c ≥ 48) && decide (c ≤ 57)
def partB (c : Int) : Bool := (letterB c || digitB c) || c == 95
theorem token_letter_eq {k : Nat} (c : Int) : token_letter k c = some (letterB c) := by
  simp only [token_letter, jn, letterB]
  cases decide (c ≥ 97) <;> cases decide (c ≤ 122) <;> cases decide (c ≥ 65) <;> rfl
theorem ref01_letter_eq {k : Nat} (c : Int) : ref01_letter k c = some (letterB c) := by
  simp only [ref01_letter, jn, letterB]
  cases decide (c ≥ 97) <;> cases decide (c ≤ 122) <;> cases decide (c ≥ 65) <;> rfl
theorem token_digit_eq {k : Nat} (c : Int) : token_digit k c = some (digitB c) := by
  simp only [token_digit, jn, digitB]
  cases decide (c ≥ 48) <;> rfl
theorem ref01_digit_eq {k : Nat} (c : Int) : ref01_digit k c = some (digitB c) := by
  simp only [ref01_digit, jn, digitB]
  cases decide (c ≥ 48) <;> rfl
theorem token_part_eq {k : Nat} (c : Int) : token_part k c = some (partB c) := by
  simp only [token_part, jn, partB, token_letter_eq, token_digit_eq, Option.bind_some]
  cases letterB c <;> cases digitB c <;> rfl
theorem letter_not_digit {c : Int} (h : letterB c = true) : digitB c = false := by
  simp only [letterB, digitB, Bool.or_eq_true, Bool.and_eq_true, decide_eq_true_eq, Bool.and_eq_false_iff, decide_eq_false_iff_not] at *
  omega
def stopF (p : Nat → Bool) : Nat → Nat → Nat
  | i, 0 => i
  | i, d + 1 => bif p i then stopF p (i + 1) d else i
def stopN (p : Nat → Bool) (i n : Nat) : Nat := stopF p i (n - i)
theorem stopN_end {p : Nat → Bool} {n : Nat} : stopN p n n = n := by simp [stopN, stopF]
theorem stopN_step {p : Nat → Bool} {i n : Nat} (h : i < n) : stopN p i n = bif p i then stopN p (i + 1) n else i := by
  have : n - i = (n - (i + 1)) + 1 := by omega
  unfold stopN; rw [this]; rfl
theorem stopF_le {p : Nat → Bool} : ∀ {d i : Nat}, stopF p i d ≤ i + d
  | 0, i => by simp [stopF]
  | d + 1, i => by
    have := stopF_le (p := p) (d := d) (i := i + 1)
    unfold stopF; cases p i <;> simp <;> omega
theorem stopN_le {p : Nat → Bool} {n : Nat} : stopN p 0 n ≤ n := by have := stopF_le (p := p) (d := n) (i := 0); simpa [stopN] using this
theorem stopN_congr {p q : Nat → Bool} {n : Nat} : ∀ {i : Nat}, (∀ j, p j = q j) → stopN p i n = stopN q i n := by
  intro i h; have : p = q := funext h; rw [this]
theorem token_run_eq {k : Nat} (s : Str) (f : Int → Option Bool) (p : Nat → Bool) (hk : s.length < k) (hs : s.length ≤ 1000000)
    (hf : ∀ j, j < s.length → f (bt s (j : Int)) = some (p j)) : token_run k s f = some (stopN p 0 s.length : Int) := by
  refine loop1_eq (fun i => (stopN p i s.length : Int)) s.length (fun rec => ?_) (fun i hi rec ih => ?_) (Nat.zero_le _) (by omega)
  · simp [token_run.b0, jn, stopN_end]
  · rw [stopN_step hi]
    simp only [token_run.b0, jn, hf i hi, Option.bind_some]
    have : decide ((i : Int) < (s.length : Int)) = true := by simp [hi]
    rw [this, cond_true, gd (by omega), gd (inR_nat (by omega))]
    cases p i <;> simp [ih]
theorem ref01_run_eq {k : Nat} (s : Str) (dg : Bool) (hk : s.length < k) (hs : s.length ≤ 1000000) :
    ref01_run k s 0 dg = some (stopN (fun j => digitB (bt s (j : Int)) || (!dg && (letterB (bt s (j : Int)) || (bt s (j : Int)) == 95))) 0 s.length : Int) := by
  refine loop1_eq (fun i => (stopN _ i s.length : Int)) s.length (fun rec => ?_) (fun i hi rec ih => ?_) (Nat.zero_le _) (by omega)
  · simp only [ref01_run.b0, jn, stopN_end, Int.zero_add]
    rw [gd (inR_of (by omega))]
    simp
  · rw [stopN_step hi]
    have : decide ((i : Int) < (s.length : Int)) = true := by simp [hi]
    have h1 : inR (i : Int) := inR_of (by omega)
    have h2 : (0 : Int) ≤ (i : Int) ∧ (i : Int) < (s.length : Int) := by omega
    simp only [ref01_run.b0, jn, Int.zero_add, gd h1, gd h2, this, cond_true, ref01_digit_eq, ref01_letter_eq, Option.bind_some, gd (inR_nat (n := i) (by omega)), ih]
    cases digitB (bt s (i : Int)) <;> cases dg <;> cases letterB (bt s (i : Int)) <;> cases (bt s (i : Int) == 95) <;> rfl
def isNameB (s : Str) : Bool := (s != []) && (letterB (bt s 0) && (decide (stopN (fun j => partB (bt s (j : Int))) 0 s.length ≤ 20) && stopN (fun j => partB (bt s (j : Int))) 0 s.length == s.length))
theorem token_quoted_out {k : Nat} (s : Str) (h0 : 1 ≤ s.length) (hk : s.length < k) (hs : s.length ≤ 1000000) : Out (token_quoted k s) (fun _ => True) := by
  unfold token_quoted
  rw [gd (by omega)]
  have hd : (s.drop (1 : Int).toNat).length = s.length - 1 := by simp
  refine Out.bind (P := fun r => 0 ≤ r ∧ r ≤ (s.length : Int) - 1) ⟨_, token_run_eq (p := fun j => (decide (bt (s.drop (1 : Int).toNat) (j : Int) ≥ 32) && (decide (bt (s.drop (1 : Int).toNat) (j : Int) ≤ 126) && (bt (s.drop (1 : Int).toNat) (j : Int)) != 34))) _ _ (by omega) (by omega) (fun j _ => ?_), ?_⟩ fun r hr => ?_
  · simp only [token_quoted_1, jn]
    cases decide (bt (s.drop (1 : Int).toNat) (j : Int) ≥ 32) <;> cases decide (bt (s.drop (1 : Int).toNat) (j : Int) ≤ 126) <;> rfl
  · refine ⟨by omega, ?_⟩
    have h := stopN_le (p := fun j => (decide (bt (s.drop (1 : Int).toNat) (j : Int) ≥ 32) && (decide (bt (s.drop (1 : Int).toNat) (j : Int) ≤ 126) && (bt (s.drop (1 : Int).toNat) (j : Int)) != 34))) (n := (s.drop (1 : Int).toNat).length)
    rw [hd] at h ⊢
    omega
  · simp only [jn]
    rw [gd (inR_of (by omega))]
    cases hb : (1 + r == (s.length : Int)) with
    | true => exact ⟨_, rfl, trivial⟩
    | false =>
      have : 1 + r ≠ (s.length : Int) := by simpa using hb
      rw [cond_false, gd (inR_of (by omega)), gd (by omega)]
      cases (bt s (1 + r) != 34) with
      | true => exact ⟨_, rfl, trivial⟩
      | false =>
        rw [cond_false]
        cases decide (r > 60) with
        | true => exact ⟨_, rfl, trivial⟩
        | false => rw [cond_false, gd (inR_of (by omega))]; exact ⟨_, rfl, trivial⟩
theorem token_pair_out {k : Nat} (s : Str) (hk : 10 ≤ k) : Out (token_pair k s) (fun _ => True) := by
  unfold token_pair; simp only [jn]
  cases hb : decide ((s.length : Int) ≥ 2) with
  | false => exact ⟨_, rfl, trivial⟩
  | true =>
    simp at hb
    rw [cond_true, gd (by omega), Contains_string _ _ (by simp; omega) (by simp)]
    exact ⟨_, rfl, trivial⟩
theorem token_next_out {k : Nat} (s : Str) (h0 : 1 ≤ s.length) (hk : s.length < k) (hk' : 10 ≤ k) (hs : s.length ≤ 1000000) (hl : letterB (bt s 0) = false) :
    Out (token_next k s) (fun r => r.2.2 ≠ 0 ∨ r.1 ≠ 1) := by
  unfold token_next
  rw [gd (by omega), token_letter_eq, Option.bind_some, hl, cond_false, token_digit_eq, Option.bind_some]
  cases digitB (bt s 0) with
  | true =>
    rw [cond_true, token_run_eq (p := fun j => digitB (bt s (j : Int))) _ _ hk hs (fun j _ => token_digit_eq _), Option.bind_some]
    cases decide ((stopN (fun j => digitB (bt s (j : Int))) 0 s.length : Int) > 9)
    · exact ⟨_, rfl, .inr (by simp)⟩
    · exact ⟨_, rfl, .inl (by simp)⟩
  | false =>
    rw [cond_false]
    cases (bt s 0 == 34) with
    | true => rw [cond_true]; exact Out.bind (token_quoted_out s h0 hk hs) fun r _ => ⟨_, rfl, .inr (by simp)⟩
    | false =>
      rw [cond_false]
      refine Out.bind (token_pair_out s hk') fun r _ => ?_
      cases r with
      | true => exact ⟨_, rfl, .inr (by simp)⟩
      | false =>
        simp only [cond_false, strings_IndexByte, stringslite_IndexByte, Option.bind_some]
        generalize decide (_ ≥ (0 : Int)) = b
        cases b
        · exact ⟨_, rfl, .inl (by decide)⟩
        · exact ⟨_, rfl, .inr (by decide)⟩
theorem token_IsName_eq {k : Nat} (hk : 200 ≤ k) (s : Str) (hs : s.length ≤ 100) : token_IsName k s = some (isNameB s) := by
  unfold token_IsName token_whole jn; dsimp only
  rw [show ((1 : Int) == 3) = false from rfl, cond_false]
  cases s with
  | nil => simp [isNameB]
  | cons c t =>
    rw [show (((c :: t : Str) == ([] : Str))) = false from rfl, cond_false]
    generalize hS : (c :: t : Str) = s at *
    have h0 : 1 ≤ s.length := by subst hS; simp
    have hne : (s != []) = true := by subst hS; rfl
    cases hl : letterB (bt s 0) with
    | true =>
      unfold token_next
      rw [gd (by omega), token_letter_eq, Option.bind_some, hl, cond_true, token_run_eq (p := fun j => partB (bt s (j : Int))) _ _ (by omega) (by omega) (fun j _ => token_part_eq _), Option.bind_some]
      simp only [isNameB, hne, hl, Bool.true_and]
      by_cases hg : stopN (fun j => partB (bt s (j : Int))) 0 s.length ≤ 20
      · have h1 : decide ((stopN (fun j => partB (bt s (j : Int))) 0 s.length : Int) > 20) = false := by simp; omega
        rw [h1, cond_false, decide_eq_true hg]
        simp only [Option.bind_some, Bool.true_and, beq_self_eq_true, cond_true]
        congr 1
        rw [Bool.eq_iff_iff, beq_iff_eq, beq_iff_eq]; omega
      · have h1 : decide ((stopN (fun j => partB (bt s (j : Int))) 0 s.length : Int) > 20) = true := by simp; omega
        rw [h1, cond_true, decide_eq_false hg]
        rfl
    | false =>
      obtain ⟨r, e, h⟩ := token_next_out (k := k) s h0 (by omega) (by omega) (by omega) hl
      rw [e, Option.bind_some]
      simp only [isNameB, hne, hl, Bool.true_and, Bool.false_and]
      rcases h with h | h
      · have : (r.2.2 == 0) = false := by simp [h]
        rw [this]; rfl
      · have : (r.1 == 1) = false := by simp [h]
        rw [this]; cases (r.2.2 == 0) <;> rfl
theorem ref01_quoted_out {k : Nat} (s : Str) (h0 : 1 ≤ s.length) (hk : s.length < k) (hs : s.length ≤ 1000000) : Out (ref01_quoted k s 0) (fun r => r = 0 ∨ (2 ≤ r ∧ r ≤ (s.length : Int))) := by
  refine loop1_out (I := fun i => 1 ≤ i) (P := fun _ r => r = 0 ∨ (2 ≤ r ∧ r ≤ (s.length : Int))) s.length (fun _ rec => ?_) (fun i hi h1 rec ih => ?_) k 1 h0 (by omega) (by omega)
  · simp only [ref01_quoted.b0, jn, Int.zero_add]
    rw [gd (inR_of (by omega))]
    refine ⟨0, by simp, .inl rfl⟩
  · have : decide ((i : Int) < (s.length : Int)) = true := by simp [hi]
    have g1 : inR (i : Int) := inR_of (by omega)
    have g2 : (0 : Int) ≤ (i : Int) ∧ (i : Int) < (s.length : Int) := by omega
    simp only [ref01_quoted.b0, jn, Int.zero_add, gd g1, gd g2, this, cond_true, gd (inR_nat (n := i) (by omega))]
    cases (bt s (i : Int) == 34) with
    | true => exact ⟨_, rfl, .inr (by omega)⟩
    | false =>
      rw [cond_false]
      cases decide (bt s (i : Int) < 32) with
      | true => exact ⟨_, rfl, .inl rfl⟩
      | false =>
        cases decide (bt s (i : Int) > 126) with
        | true => exact ⟨_, rfl, .inl rfl⟩
        | false => exact ih (by omega)
theorem ref01_one_out {k : Nat} (s : Str) (h0 : 1 ≤ s.length) (hk : s.length < k) (hk' : 100 ≤ k) (hs : s.length ≤ 1000000) (hl : letterB (bt s 0) = false) :
    Out (ref01_one k s 0) (fun r => r.2.2 ≠ 0 ∨ r.1.fKind ≠ 1) := by
  unfold ref01_one; simp only [jn]
  rw [gd (by omega)]
  simp only [ref01_letter_eq, ref01_digit_eq, Option.bind_some, hl, cond_false]
  cases hd : digitB (bt s 0) with
  | true =>
    rw [cond_true, ref01_run_eq _ _ hk hs, Option.bind_some]
    have hle := stopN_le (p := fun j => digitB (bt s (j : Int)) || (!true && (letterB (bt s (j : Int)) || (bt s (j : Int)) == 95))) (n := s.length)
    generalize hn : stopN (fun j => digitB (bt s (j : Int)) || (!true && (letterB (bt s (j : Int)) || (bt s (j : Int)) == 95))) 0 s.length = n at *
    rw [cond_true]
    cases decide ((n : Int) > 9) with
    | true => exact ⟨_, rfl, .inl (by simp)⟩
    | false =>
      rw [cond_false, gd (inR_of (by omega)), gd (by omega)]
      exact ⟨_, rfl, .inr (by simp)⟩
  | false =>
    rw [cond_false]
    cases (bt s 0 == 34) with
    | true =>
      rw [cond_true]
      refine Out.bind (ref01_quoted_out s h0 hk hs) fun r hr => ?_
      cases hz : (r == 0) with
      | true => exact ⟨_, rfl, .inl (by simp)⟩
      | false =>
        have hz' : r ≠ 0 := by simpa using hz
        rw [cond_false, gd (inR_of (by omega))]
        cases decide (r - 2 > 60) with
        | true => exact ⟨_, rfl, .inl (by simp)⟩
        | false =>
          rw [cond_false, gd (inR_of (by omega)), gd (inR_of (by omega)), gd (inR_of (by omega)), gd (by omega)]
          exact ⟨_, rfl, .inr (by simp)⟩
    | false =>
      rw [cond_false, ref01_signs, Option.bind_some]
      generalize hL : ([([45, 62] : Str), ([60, 61] : Str), ([62, 61] : Str), ([61, 61] : Str), ([33, 61] : Str), ([123] : Str), ([125] : Str), ([40] : Str), ([41] : Str), ([91] : Str), ([93] : Str), ([44] : Str), ([59] : Str), ([58] : Str), ([61] : Str), ([43] : Str), ([45] : Str), ([42] : Str), ([60] : Str), ([62] : Str), ([33] : Str), ([38] : Str), ([124] : Str), ([46] : Str), ([63] : Str)] : List Str) = L
      have hLl : L.length = 25 := by subst hL; rfl
      have hLe : ∀ x ∈ L, x.length ≤ 2 := by subst hL; decide
      refine loop1_out (I := fun _ => True) (P := fun _ (r : Token × Int × Int) => r.2.2 ≠ 0 ∨ r.1.fKind ≠ 1) L.length (fun _ rec => ?_) (fun i hi h1 rec ih => ?_) k 0 (Nat.zero_le _) (by omega) trivial
      · exact ⟨(Token.mk 0 [] 0, 0, 2), by simp [ref01_one.b0], .inl (by simp)⟩
      · have : decide ((i : Int) < (L.length : Int)) = true := by simp [hi]
        have g2 : (0 : Int) ≤ (i : Int) ∧ (i : Int) < (L.length : Int) := by omega
        have g3 := hLe _ (rd_mem g2.1 g2.2)
        have g4 : inR ((rd L (i : Int)).length : Int) := inR_of (by omega)
        simp only [ref01_one.b0, jn, Int.zero_add, gd g2, this, cond_true, gd (inR_nat (n := i) (by omega)), gd g4]
        cases hb : decide (((rd L (i : Int)).length : Int) ≤ (s.length : Int)) with
        | false => rw [cond_false, cond_false]; exact ih trivial
        | true =>
          have hb' : ((rd L (i : Int)).length : Int) ≤ (s.length : Int) := by simpa using hb
          rw [cond_true, gd (by omega)]
          generalize (List.drop _ (s.take _) == rd L (i : Int)) = q
          cases q with
          | true => exact ⟨_, rfl, .inr (by simp)⟩
          | false => exact ih trivial
theorem ref01_IsName_eq {k : Nat} (hk : 200 ≤ k) (s : Str) (hs : s.length ≤ 100) : ref01_IsName k s = some (isNameB s) := by
  unfold ref01_IsName ref01_Right ref01_text
  rw [show ((1 : Int) == 3) = false from rfl, cond_false, Option.bind_some]
  cases s with
  | nil => simp [isNameB]
  | cons c t =>
    rw [show (((c :: t : Str) == ([] : Str))) = false from rfl, cond_false]
    generalize hS : (c :: t : Str) = s at *
    have h0 : 1 ≤ s.length := by subst hS; simp
    have hne : (s != []) = true := by subst hS; rfl
    cases hl : letterB (bt s 0) with
    | true =>
      unfold ref01_one; simp only [jn]
      rw [gd (by omega)]
      simp only [ref01_letter_eq, ref01_digit_eq, Option.bind_some, hl, cond_true, letter_not_digit hl, cond_false]
      rw [ref01_run_eq _ _ (by omega) (by omega), Option.bind_some]
      have hc := stopN_congr (p := fun j => digitB (bt s (j : Int)) || (!false && (letterB (bt s (j : Int)) || (bt s (j : Int)) == 95))) (q := fun j => partB (bt s (j : Int))) (n := s.length) (i := 0)
        (fun j => by simp only [partB]; cases digitB (bt s (j : Int)) <;> cases letterB (bt s (j : Int)) <;> rfl)
      rw [hc]
      have hle := stopN_le (p := fun j => partB (bt s (j : Int))) (n := s.length)
      simp only [isNameB, hne, hl, Bool.true_and]
      generalize stopN (fun j => partB (bt s (j : Int))) 0 s.length = n at *
      by_cases hg : n ≤ 20
      · have h1 : decide ((n : Int) > 20) = false := by simp; omega
        rw [h1, cond_false, decide_eq_true hg, gd (inR_of (by omega)), gd (by omega)]
        simp only [Option.bind_some, Bool.true_and, beq_self_eq_true, cond_true]
        have h2 : ((n : Int) == (s.length : Int)) = (n == s.length) := by rw [Bool.eq_iff_iff, beq_iff_eq, beq_iff_eq]; omega
        rw [h2]; cases (n == s.length) <;> rfl
      · have h1 : decide ((n : Int) > 20) = true := by simp; omega
        rw [h1, cond_true, decide_eq_false hg]
        rfl
    | false =>
      obtain ⟨r, e, h⟩ := ref01_one_out (k := k) s h0 (by omega) (by omega) (by omega) hl
      rw [e, Option.bind_some]
      simp only [jn, isNameB, hne, hl, Bool.true_and, Bool.false_and]
      rcases h with h | h
      · have : (r.2.2 == 0) = false := by simp [h]
        rw [this]; rfl
      · have : (r.1.fKind == 1) = false := by simp [h]
        rw [this]; cases (r.2.2 == 0) <;> cases (r.2.1 == (s.length : Int)) <;> rfl
structure FewA (x : Attr) : Prop where
  name : x.fName.length ≤ 40
  names : x.fNames.length ≤ 25
  each : ∀ s ∈ x.fNames, s.length ≤ 40
structure FewT (t : Types) : Prop where
  nodes : t.fNodes.length ≤ 20
  edges : t.fEdges.length ≤ 30
  nname : ∀ n ∈ t.fNodes, n.fName.length ≤ 40
  nattr : ∀ n ∈ t.fNodes, n.fAttrs.length ≤ 30
  attr : ∀ n ∈ t.fNodes, ∀ x ∈ n.fAttrs, FewA x
  ename : ∀ x ∈ t.fEdges, x.fName.length ≤ 40
def namesErr (l : List Str) (i : Nat) : Int := bif !isNameB (rd l (i : Int)) then 2 else bif anyN (fun j => rd l (j : Int) == rd l (i : Int)) 0 i then 5 else 0
def namesS (l : List Str) : Int := bif decide ((l.length : Int) > 20) then 3 else scan (namesErr l) 0 l.length
theorem types_names_eq {k : Nat} (hk : 200 ≤ k) (l : List Str) (hl : ∀ s ∈ l, s.length ≤ 100) : types_names k l = some (namesS l) := by
  unfold types_names namesS
  cases hb : decide ((l.length : Int) > 20) with
  | true => rfl
  | false =>
    simp at hb
    rw [cond_false, cond_false]
    refine loop1_eq (fun i => scan (namesErr l) i l.length) l.length (fun rec => ?_) (fun i hi rec ih => ?_) (Nat.zero_le _) (by omega)
    · simp [types_names.b0, scan_end]
    · rw [scan_step hi]
      have h1 : decide ((i : Int) < (l.length : Int)) = true := by simp [hi]
      have h2 : (0 : Int) ≤ (i : Int) ∧ (i : Int) < (l.length : Int) := by omega
      have h3 : (l.take (i : Int).toNat).length = i := by simp; omega
      have h4 := token_IsName_eq (k := k) hk (rd l (i : Int)) (hl _ (rd_mem h2.1 h2.2))
      have h5 := Contains_string (k := k) (l.take (i : Int).toNat) (rd l (i : Int)) (by omega) (by omega)
      rw [h3] at h5
      rw [anyN_congr (q := fun j => rd l (j : Int) == rd l (i : Int)) (fun j _ hj => by rw [show (i : Int).toNat = i from rfl, rd_take hj, Bool.beq_comm])] at h5
      simp only [types_names.b0, h1, cond_true, gd h2, h4, Option.bind_some, gd (show (0 : Int) ≤ (i : Int) ∧ (i : Int) ≤ (l.length : Int) by omega), h5, gd (inR_nat (n := i) (by omega)), ih, namesErr]
      cases isNameB (rd l (i : Int)) <;> cases anyN (fun j => rd l (j : Int) == rd l (i : Int)) 0 i <;> rfl
theorem ref04_names_eq {k : Nat} (hk : 200 ≤ k) (l : List Str) (hl : ∀ s ∈ l, s.length ≤ 100) : ref04_names k l = some (namesS l) := by
  unfold ref04_names namesS
  cases hb : decide ((l.length : Int) > 20) with
  | true => rfl
  | false =>
    simp at hb
    rw [cond_false, cond_false]
    refine loop1_eq (fun i => scan (namesErr l) i l.length) l.length (fun rec => ?_) (fun i hi rec ih => ?_) (Nat.zero_le _) (by omega)
    · simp only [ref04_names.b0, scan_end, show decide ((l.length : Int) < (l.length : Int)) = false by simp, cond_false]
    · rw [scan_step hi]
      have h1 : decide ((i : Int) < (l.length : Int)) = true := by simp [hi]
      have h2 : (0 : Int) ≤ (i : Int) ∧ (i : Int) < (l.length : Int) := by omega
      have h4 := ref01_IsName_eq (k := k) hk (rd l (i : Int)) (hl _ (rd_mem h2.1 h2.2))
      have h5 : loop1 k (ref04_names.b1 l (i : Int) rec) ((0 : Nat) : Int) = some (bif anyN (fun j => rd l (j : Int) == rd l (i : Int)) 0 i then 5 else scan (namesErr l) (i + 1) l.length) := by
        refine loop1_eq (fun j => bif anyN (fun j => rd l (j : Int) == rd l (i : Int)) j i then 5 else scan (namesErr l) (i + 1) l.length) i (fun rec1 => ?_) (fun j hj rec1 ih1 => ?_) (Nat.zero_le _) (by omega)
        · simp only [ref04_names.b1, anyN_end, cond_false, gd (inR_nat (n := i) (by omega)), ih, show decide ((i : Int) < (i : Int)) = false by simp]
        · rw [anyN_step hj, ref04_names.b1, show decide ((j : Int) < (i : Int)) = true by simp [hj], cond_true, gd (show (0 : Int) ≤ (j : Int) ∧ (j : Int) < (l.length : Int) by omega), gd h2, gd (inR_nat (n := j) (by omega)), ih1]
          cases (rd l (j : Int) == rd l (i : Int)) with
          | true => rw [cond_true, Bool.true_or, cond_true]
          | false => rw [cond_false, Bool.false_or]
      have h6 : loop1 k (ref04_names.b1 l (i : Int) rec) 0 = _ := h5
      simp only [ref04_names.b0, h1, cond_true, gd h2, h4, Option.bind_some, h6, namesErr]
      cases isNameB (rd l (i : Int)) <;> cases anyN (fun j => rd l (j : Int) == rd l (i : Int)) 0 i <;> simp
def attrOwn (x : Attr) : Int :=
  bif namesS x.fNames != 0 then namesS x.fNames
  else bif decide ((x.fNames.length : Int) > 0) then (bif x.fLow == 0 && x.fHigh == (x.fNames.length : Int) - 1 then 0 else 6)
  else (bif decide (-1000000 ≤ x.fLow) && (decide (x.fLow ≤ x.fHigh) && decide (x.fHigh ≤ 1000000)) then 0 else 6)
def attrErr (all : List Attr) (i : Nat) : Int :=
  bif !isNameB (rd all (i : Int)).fName then 2 else bif anyN (fun j => (rd all (j : Int)).fName == (rd all (i : Int)).fName) 0 i then 5 else attrOwn (rd all (i : Int))
theorem types_attribute_eq {k : Nat} (hk : 200 ≤ k) (all : List Attr) (i : Nat) (hi : i < all.length) (hl : all.length ≤ 100) (hf : FewA (rd all (i : Int))) :
    types_attribute k (rd all (i : Int)) (all.take (i : Int).toNat) = some (attrErr all i) := by
  have h3 : (all.take (i : Int).toNat).length = i := by simp; omega
  have h4 := token_IsName_eq (k := k) hk (rd all (i : Int)).fName (by have := hf.name; omega)
  have h5 := ContainsFunc_Attr (k := k) (all.take (i : Int).toNat) (fun x => types_attribute_1 k x (rd all (i : Int))) _ (by omega) (by omega) (fun j _ => rfl)
  rw [h3, anyN_congr (q := fun j => (rd all (j : Int)).fName == (rd all (i : Int)).fName) (fun j _ hj => by rw [show (i : Int).toNat = i from rfl, rd_take hj])] at h5
  have h6 := types_names_eq (k := k) hk (rd all (i : Int)).fNames (fun s hs => by have := hf.each s hs; omega)
  unfold types_attribute attrErr attrOwn
  rw [h4, Option.bind_some, h5, Option.bind_some, h6, Option.bind_some]
  generalize rd all (i : Int) = x at *
  have hn := hf.names
  cases isNameB x.fName with
  | false => rfl
  | true =>
    cases anyN (fun j => (rd all (j : Int)).fName == x.fName) 0 i with
    | true => rfl
    | false =>
      cases hz : namesS x.fNames != 0 with
      | true => rfl
      | false =>
        simp only [jn, Bool.not_true, cond_false]
        cases decide ((x.fNames.length : Int) > 0) with
        | true =>
          simp only [cond_true, gd (inR_of (x := (x.fNames.length : Int) - 1) (by omega))]
          cases decide (-1000000 ≤ x.fLow) <;> cases decide (x.fLow ≤ x.fHigh) <;> cases (x.fLow == 0) <;> cases (x.fHigh == (x.fNames.length : Int) - 1) <;> rfl
        | false =>
          cases decide (-1000000 ≤ x.fLow) <;> cases decide (x.fLow ≤ x.fHigh) <;> cases decide (x.fHigh ≤ 1000000) <;> rfl
theorem ref04_in_eq {k : Nat} (a b c : Int) : ref04_in k a b c = some (decide (a ≥ b) && decide (a ≤ c)) := by
  simp only [ref04_in, jn]; cases decide (a ≥ b) <;> rfl
theorem ref04_attribute_eq {k : Nat} (hk : 200 ≤ k) (x : Attr) (hf : FewA x) : ref04_attribute k x = some (attrOwn x) := by
  have h6 := ref04_names_eq (k := k) hk x.fNames (fun s hs => by have := hf.each s hs; omega)
  unfold ref04_attribute attrOwn
  simp only [h6, jn, ref04_in_eq, Option.bind_some]
  have hn := hf.names
  cases hz : ((x.fNames.length : Int) == 0) with
  | true =>
    have hz' : x.fNames = [] := by
      have : (x.fNames.length : Int) = 0 := by simpa using hz
      exact List.length_eq_zero_iff.1 (by omega)
    rw [hz']
    have : namesS [] = 0 := rfl
    rw [this]
    simp only [bne_self_eq_false, cond_false, cond_true, List.length_nil]
    rw [show decide ((((0 : Nat) : Int)) > 0) = false from rfl, cond_false]
    by_cases h1 : -1000000 ≤ x.fLow <;> by_cases h2 : x.fLow ≤ 1000000 <;> by_cases h3 : x.fLow ≤ x.fHigh <;> by_cases h4 : x.fHigh ≤ 1000000 <;> simp [h1, h2, h3, h4] <;> omega
  | false =>
    have hz' : (x.fNames.length : Int) ≠ 0 := by simpa using hz
    rw [cond_false, decide_eq_true (show (x.fNames.length : Int) > 0 by omega), cond_true, gd (inR_of (x := (x.fNames.length : Int) - 1) (by omega))]
    cases (namesS x.fNames != 0) with
    | true => rfl
    | false =>
      simp only [cond_false, bne]
      cases (x.fLow == 0) <;> cases (x.fHigh == (x.fNames.length : Int) - 1) <;> rfl
def attrsS (ns : List NodeType) : Nat → Int → List Attr
  | 0, _ => []
  | d + 1, a => bif decide (a < 0) then [] else attrsS ns d (rd ns a).fParent ++ (rd ns a).fAttrs
def WfP (ns : List NodeType) (n : Nat) : Prop := n ≤ ns.length ∧ ∀ j : Nat, j < n → -1 ≤ (rd ns (j : Int)).fParent ∧ (rd ns (j : Int)).fParent < (j : Int)
theorem attrsS_neg {ns : List NodeType} {d : Nat} {a : Int} (h : a < 0) : attrsS ns d a = [] := by cases d <;> simp [attrsS, h]
theorem attrsS_pos {ns : List NodeType} {d : Nat} {a : Int} (h : 0 ≤ a) : attrsS ns (d + 1) a = attrsS ns d (rd ns a).fParent ++ (rd ns a).fAttrs := by
  have : decide (a < 0) = false := by simp; omega
  simp [attrsS, this]
theorem wf_at {ns : List NodeType} {n : Nat} (w : WfP ns n) {a : Int} (h0 : 0 ≤ a) (h : a < (n : Int)) : -1 ≤ (rd ns a).fParent ∧ (rd ns a).fParent < a := by
  have := w.2 a.toNat (by omega)
  rwa [Int.toNat_of_nonneg h0] at this
theorem attrsS_len {ns : List NodeType} {n : Nat} (w : WfP ns n) (hn : ∀ x ∈ ns, x.fAttrs.length ≤ 30) : ∀ (d : Nat) (a : Int), a < (n : Int) → (attrsS ns d a).length ≤ 30 * d
  | 0, _, _ => by simp [attrsS]
  | d + 1, a, h => by
    rcases Int.lt_or_le a 0 with ha | ha
    · rw [attrsS_neg ha]; simp
    · have hw := wf_at w ha h
      have hm := hn _ (rd_mem (l := ns) ha (by have := w.1; omega))
      have ih := attrsS_len w hn d (rd ns a).fParent (by omega)
      rw [attrsS_pos ha, List.length_append]
      omega
theorem attrsS_all {ns : List NodeType} {n : Nat} {G : Attr → Prop} (w : WfP ns n) (hn : ∀ x ∈ ns, ∀ a ∈ x.fAttrs, G a) : ∀ (d : Nat) (a : Int), a < (n : Int) → ∀ x ∈ attrsS ns d a, G x
  | 0, _, _ => by simp [attrsS]
  | d + 1, a, h => by
    rcases Int.lt_or_le a 0 with ha | ha
    · rw [attrsS_neg ha]; simp
    · have hw := wf_at w ha h
      have ih := attrsS_all w hn d (rd ns a).fParent (by omega)
      rw [attrsS_pos ha]
      intro x hx
      rcases List.mem_append.1 hx with hx | hx
      · exact ih x hx
      · exact hn _ (rd_mem (l := ns) ha (by have := w.1; omega)) x hx
theorem types_attrs_eq {t : Types} {n : Nat} (w : WfP t.fNodes n) (hn : ∀ x ∈ t.fNodes, x.fAttrs.length ≤ 30) : ∀ (d k : Nat) (a : Int), d ≤ 1000 → d ≤ k → 0 ≤ a → a < (d : Int) → a < (n : Int) →
    types_attrs k t a = some (attrsS t.fNodes d a)
  | 0, _, _, _, _, h0, h1, _ => by omega
  | d + 1, 0, _, _, hk, _, _, _ => by omega
  | d + 1, k + 1, a, hd, hk, h0, h1, h2 => by
    have hw := wf_at w h0 h2
    have g : (0 : Int) ≤ a ∧ a < (t.fNodes.length : Int) := ⟨h0, by have := w.1; omega⟩
    have hm := hn _ (rd_mem g.1 g.2)
    have hl := attrsS_len w hn d (rd t.fNodes a).fParent (by omega)
    rw [attrsS_pos h0]
    unfold types_attrs types_attrs.main
    simp only [jn, gd g]
    cases hp : decide ((rd t.fNodes a).fParent ≥ 0) with
    | true =>
      have hp' : (rd t.fNodes a).fParent ≥ 0 := by simpa using hp
      rw [cond_true, types_attrs_eq w hn d k _ (by omega) (by omega) hp' (by omega) (by omega), Option.bind_some, gd (by unfold lim; omega)]
    | false =>
      have hp' : (rd t.fNodes a).fParent < 0 := by have : ¬ (rd t.fNodes a).fParent ≥ 0 := by simpa using hp
                                                   omega
      rw [cond_false, attrsS_neg hp', gd (by simp [lim]; omega)]
theorem ref04_attrs_eq {t : Types} {n : Nat} (w : WfP t.fNodes n) (hn : ∀ x ∈ t.fNodes, x.fAttrs.length ≤ 30) : ∀ (d k : Nat) (a : Int), d ≤ 1000 → d < k → a < (d : Int) → a < (n : Int) →
    ref04_attrs k t a = some (attrsS t.fNodes d a)
  | d, 0, _, _, hk, _, _ => by omega
  | 0, k + 1, a, _, _, h1, _ => by
    unfold ref04_attrs ref04_attrs.main
    rw [decide_eq_true (show a < 0 by omega)]; rfl
  | d + 1, k + 1, a, hd, hk, h1, h2 => by
    unfold ref04_attrs ref04_attrs.main
    rcases Int.lt_or_le a 0 with ha | ha
    · rw [decide_eq_true ha, attrsS_neg ha]; rfl
    · have hw := wf_at w ha h2
      have g : (0 : Int) ≤ a ∧ a < (t.fNodes.length : Int) := ⟨ha, by have := w.1; omega⟩
      have hm := hn _ (rd_mem g.1 g.2)
      have hl := attrsS_len w hn d (rd t.fNodes a).fParent (by omega)
      rw [decide_eq_false (show ¬ a < 0 by omega), cond_false, attrsS_pos ha, gd g, ref04_attrs_eq w hn d k _ (by omega) (by omega) (by omega) (by omega), Option.bind_some, gd (by unfold lim; omega), gd g, gd (by unfold lim; omega)]
def nodeErr (t : Types) (i : Nat) : Int :=
  bif !isNameB (rd t.fNodes (i : Int)).fName then 2
  else bif anyN (fun j => (rd t.fNodes (j : Int)).fName == (rd t.fNodes (i : Int)).fName) 0 i then 5
  else bif decide ((rd t.fNodes (i : Int)).fParent < -1) || decide ((rd t.fNodes (i : Int)).fParent ≥ (i : Int)) then 6
  else bif decide (((rd t.fNodes (i : Int)).fAttrs.length : Int) > 4) then 3
  else bif decide (((attrsS t.fNodes 100 (i : Int)).length : Int) > 8) then 3
  else scan (attrErr (attrsS t.fNodes 100 (i : Int))) ((attrsS t.fNodes 100 (i : Int)).length - (rd t.fNodes (i : Int)).fAttrs.length) (attrsS t.fNodes 100 (i : Int)).length
theorem wf_succ {ns : List NodeType} {i : Nat} (w : WfP ns i) (hi : i < ns.length) (h : -1 ≤ (rd ns (i : Int)).fParent ∧ (rd ns (i : Int)).fParent < (i : Int)) : WfP ns (i + 1) :=
  ⟨hi, fun j hj => by rcases Nat.lt_succ_iff_lt_or_eq.1 hj with hj | rfl
                      · exact w.2 j hj
                      · exact h⟩
theorem nodeErr_wf {t : Types} {i : Nat} (w : WfP t.fNodes i) (hi : i < t.fNodes.length) (h : nodeErr t i = 0) : WfP t.fNodes (i + 1) := by
  refine wf_succ w hi ?_
  unfold nodeErr at h
  cases h1 : isNameB (rd t.fNodes (i : Int)).fName
  · rw [h1] at h; simp at h
  cases h2 : anyN (fun j => (rd t.fNodes (j : Int)).fName == (rd t.fNodes (i : Int)).fName) 0 i
  · rw [h1, h2] at h
    simp only [Bool.not_true, cond_false] at h
    cases hp : decide ((rd t.fNodes (i : Int)).fParent < -1) || decide ((rd t.fNodes (i : Int)).fParent ≥ (i : Int)) with
    | true => rw [hp] at h; simp at h
    | false =>
      simp only [Bool.or_eq_false_iff, decide_eq_false_iff_not] at hp
      omega
  · rw [h1, h2] at h; simp at h
theorem types_node_eq {k : Nat} (hk : 200 ≤ k) {t : Types} (ht : FewT t) {i : Nat} (hi : i < t.fNodes.length) (w : WfP t.fNodes i) : types_node k t (i : Int) = some (nodeErr t i) := by
  have h20 := ht.nodes
  have h1 : (0 : Int) ≤ (i : Int) ∧ (i : Int) < (t.fNodes.length : Int) := by omega
  have hm := rd_mem h1.1 h1.2
  have h3 : (t.fNodes.take (i : Int).toNat).length = i := by simp; omega
  have h4 := token_IsName_eq (k := k) hk (rd t.fNodes (i : Int)).fName (by have := ht.nname _ hm; omega)
  have h5 := ContainsFunc_NodeType (k := k) (t.fNodes.take (i : Int).toNat) (fun x => types_node_1 k x (rd t.fNodes (i : Int))) _ (by omega) (by omega) (fun j _ => rfl)
  rw [h3, anyN_congr (q := fun j => (rd t.fNodes (j : Int)).fName == (rd t.fNodes (i : Int)).fName) (fun j _ hj => by rw [show (i : Int).toNat = i from rfl, rd_take hj])] at h5
  unfold types_node nodeErr
  rw [gd h1, h4, Option.bind_some]
  cases isNameB (rd t.fNodes (i : Int)).fName with
  | false => rfl
  | true =>
    rw [Bool.not_true, cond_false, cond_false, gd (by omega), h5, Option.bind_some]
    cases anyN (fun j => (rd t.fNodes (j : Int)).fName == (rd t.fNodes (i : Int)).fName) 0 i with
    | true => rfl
    | false =>
      simp only [cond_false, jn]
      cases hp1 : decide ((rd t.fNodes (i : Int)).fParent < -1) with
      | true => rfl
      | false =>
        cases hp2 : decide ((rd t.fNodes (i : Int)).fParent ≥ (i : Int)) with
        | true => rfl
        | false =>
          simp only [decide_eq_false_iff_not] at hp1 hp2
          have w' := wf_succ w hi (by omega)
          have ha := types_attrs_eq w' ht.nattr 100 k (i : Int) (by omega) (by omega) (by omega) (by omega) (by omega)
          have hall := attrsS_all w' ht.attr 100 (i : Int) (by omega)
          have hlen : (rd t.fNodes (i : Int)).fAttrs.length ≤ (attrsS t.fNodes 100 (i : Int)).length := by rw [attrsS_pos (by omega)]; simp
          rw [ha, Option.bind_some]
          generalize attrsS t.fNodes 100 (i : Int) = all at *
          simp only [Bool.or_false, cond_false]
          cases decide (((rd t.fNodes (i : Int)).fAttrs.length : Int) > 4) with
          | true => rfl
          | false =>
            cases h8 : decide ((all.length : Int) > 8) with
            | true => rfl
            | false =>
              simp at h8
              rw [cond_false, cond_false, gd (inR_of (by omega)), show ((all.length : Int) - ((rd t.fNodes (i : Int)).fAttrs.length : Int)) = ((all.length - (rd t.fNodes (i : Int)).fAttrs.length : Nat) : Int) by omega]
              refine loop1_eq (fun j => scan (attrErr all) j all.length) all.length (fun rec => ?_) (fun j hj rec ih => ?_) (by omega) (by omega)
              · simp [types_node.b0, scan_end]
              · rw [scan_step hj]
                have g2 : (0 : Int) ≤ (j : Int) ∧ (j : Int) < (all.length : Int) := by omega
                have h7 := types_attribute_eq (k := k) hk all j hj (by omega) (hall _ (rd_mem g2.1 g2.2))
                simp only [types_node.b0, show decide ((j : Int) < (all.length : Int)) = true by simp [hj], cond_true, gd g2, gd (show (0 : Int) ≤ (j : Int) ∧ (j : Int) ≤ (all.length : Int) by omega), h7, Option.bind_some, gd (inR_nat (n := j) (by omega)), ih]
                cases (attrErr all j != 0) <;> rfl
theorem ref04_node_eq {k : Nat} (hk : 200 ≤ k) {t : Types} (ht : FewT t) {i : Nat} (hi : i < t.fNodes.length) (w : WfP t.fNodes i) : ref04_node k t (i : Int) = some (nodeErr t i) := by
  have h20 := ht.nodes
  have h1 : (0 : Int) ≤ (i : Int) ∧ (i : Int) < (t.fNodes.length : Int) := by omega
  have hm := rd_mem h1.1 h1.2
  have h4 := ref01_IsName_eq (k := k) hk (rd t.fNodes (i : Int)).fName (by have := ht.nname _ hm; omega)
  unfold ref04_node nodeErr
  rw [gd h1, h4, Option.bind_some]
  cases isNameB (rd t.fNodes (i : Int)).fName with
  | false => rfl
  | true =>
    rw [Bool.not_true, cond_false, cond_false, show (0 : Int) = ((0 : Nat) : Int) from rfl]
    generalize hE : (bif decide ((rd t.fNodes (i : Int)).fParent < -1) || decide ((rd t.fNodes (i : Int)).fParent ≥ (i : Int)) then (6 : Int)
      else bif decide (((rd t.fNodes (i : Int)).fAttrs.length : Int) > 4) then 3
      else bif decide (((attrsS t.fNodes 100 (i : Int)).length : Int) > 8) then 3
      else scan (attrErr (attrsS t.fNodes 100 (i : Int))) ((attrsS t.fNodes 100 (i : Int)).length - (rd t.fNodes (i : Int)).fAttrs.length) (attrsS t.fNodes 100 (i : Int)).length) = E
    refine loop1_eq (fun j => bif anyN (fun j => (rd t.fNodes (j : Int)).fName == (rd t.fNodes (i : Int)).fName) j i then 5 else E) i (fun rec => ?_) (fun j hj rec ih => ?_) (Nat.zero_le _) (by omega)
    · rw [anyN_end, cond_false]
      simp only [ref04_node.b0, show decide ((i : Int) < (i : Int)) = false by simp, cond_false, gd (inR_of (x := (i : Int) - 1) (by omega)), ref04_in_eq, Option.bind_some, jn]
      subst hE
      by_cases hp1 : (rd t.fNodes (i : Int)).fParent < -1
      · rw [decide_eq_true hp1, decide_eq_false (show ¬ (rd t.fNodes (i : Int)).fParent ≥ -1 by omega)]; rfl
      by_cases hp2 : (rd t.fNodes (i : Int)).fParent ≥ (i : Int)
      · rw [decide_eq_true hp2, decide_eq_false hp1, decide_eq_false (show ¬ (rd t.fNodes (i : Int)).fParent ≤ (i : Int) - 1 by omega), Bool.and_false]; rfl
      have w' := wf_succ w hi (by omega)
      have ha := ref04_attrs_eq w' ht.nattr 100 k (i : Int) (by omega) (by omega) (by omega) (by omega)
      have hall := attrsS_all w' ht.attr 100 (i : Int) (by omega)
      have hlen : (rd t.fNodes (i : Int)).fAttrs.length ≤ (attrsS t.fNodes 100 (i : Int)).length := by rw [attrsS_pos (by omega)]; simp
      rw [ha, Option.bind_some, decide_eq_false hp1, decide_eq_false hp2, decide_eq_true (show (rd t.fNodes (i : Int)).fParent ≥ -1 by omega), decide_eq_true (show (rd t.fNodes (i : Int)).fParent ≤ (i : Int) - 1 by omega)]
      generalize attrsS t.fNodes 100 (i : Int) = all at *
      simp only [Bool.or_false, Bool.and_true, Bool.not_true, cond_false]
      cases decide (((rd t.fNodes (i : Int)).fAttrs.length : Int) > 4) with
      | true => rfl
      | false =>
        cases h8 : decide ((all.length : Int) > 8) with
        | true => rfl
        | false =>
          simp at h8
          rw [cond_false, cond_false, cond_false, cond_false, gd (inR_of (by omega)), show ((all.length : Int) - ((rd t.fNodes (i : Int)).fAttrs.length : Int)) = ((all.length - (rd t.fNodes (i : Int)).fAttrs.length : Nat) : Int) by omega]
          refine loop1_eq (fun j => scan (attrErr all) j all.length) all.length (fun rec => ?_) (fun j hj rec ih => ?_) (by omega) (by omega)
          · simp [ref04_node.b1, scan_end]
          · rw [scan_step hj]
            have g2 : (0 : Int) ≤ (j : Int) ∧ (j : Int) < (all.length : Int) := by omega
            have hfa := hall _ (rd_mem g2.1 g2.2)
            have h7 := ref04_attribute_eq (k := k) hk _ hfa
            have h8 := ref01_IsName_eq (k := k) hk (rd all (j : Int)).fName (by have := hfa.name; omega)
            have h9 : loop1 k (ref04_node.b2 k all (j : Int) rec) ((0 : Nat) : Int) = some (bif anyN (fun m => (rd all (m : Int)).fName == (rd all (j : Int)).fName) 0 j then 5 else bif attrOwn (rd all (j : Int)) != 0 then attrOwn (rd all (j : Int)) else scan (attrErr all) (j + 1) all.length) := by
              refine loop1_eq (fun m => bif anyN (fun m => (rd all (m : Int)).fName == (rd all (j : Int)).fName) m j then 5 else bif attrOwn (rd all (j : Int)) != 0 then attrOwn (rd all (j : Int)) else scan (attrErr all) (j + 1) all.length) j (fun rec1 => ?_) (fun m hm rec1 ih1 => ?_) (Nat.zero_le _) (by omega)
              · simp only [ref04_node.b2, anyN_end, cond_false, gd g2, h7, Option.bind_some, gd (inR_nat (n := j) (by omega)), ih, show decide ((j : Int) < (j : Int)) = false by simp]
                cases (attrOwn (rd all (j : Int)) != 0) <;> rfl
              · rw [anyN_step hm]
                simp only [ref04_node.b2, show decide ((m : Int) < (j : Int)) = true by simp [hm], cond_true, gd g2, gd (show (0 : Int) ≤ (m : Int) ∧ (m : Int) < (all.length : Int) by omega), gd (inR_nat (n := m) (by omega)), ih1]
                cases ((rd all (m : Int)).fName == (rd all (j : Int)).fName) <;> rfl
            have h10 : loop1 k (ref04_node.b2 k all (j : Int) rec) 0 = _ := h9
            simp only [ref04_node.b1, show decide ((j : Int) < (all.length : Int)) = true by simp [hj], cond_true, gd g2, h8, Option.bind_some, h10, attrErr]
            cases isNameB (rd all (j : Int)).fName <;> cases anyN (fun m => (rd all (m : Int)).fName == (rd all (j : Int)).fName) 0 j <;> rfl
    · rw [anyN_step hj]
      simp only [ref04_node.b0, show decide ((j : Int) < (i : Int)) = true by simp [hj], cond_true, gd (show (0 : Int) ≤ (j : Int) ∧ (j : Int) < (t.fNodes.length : Int) by omega), gd (inR_nat (n := j) (by omega)), ih]
      cases ((rd t.fNodes (j : Int)).fName == (rd t.fNodes (i : Int)).fName) <;> rfl
def boundB (a b : Int) : Bool := decide (a ≥ 0) && (decide (a ≤ 40) && (b == -1 || (decide (b ≥ a) && decide (b ≤ 40))))
theorem types_bounded_eq {k : Nat} (a b : Int) : types_bounded k a b = some (boundB a b) := by
  simp only [types_bounded, jn, boundB]
  cases decide (a ≥ 0) <;> cases decide (a ≤ 40) <;> cases (b == -1) <;> cases decide (b ≥ a) <;> rfl
theorem ref04_bound_eq {k : Nat} (a b : Int) : ref04_bound k a b = some (boundB a b) := by
  simp only [ref04_bound, jn, boundB, ref04_in_eq, Option.bind_some]
  cases decide (a ≥ 0) <;> cases decide (a ≤ 40) <;> cases (b == -1) <;> cases decide (b ≥ a) <;> rfl
def insB (a : Int) (t : Types) : Bool := decide (a ≥ 0) && decide (a < (t.fNodes.length : Int))
theorem types_edge_1_eq {k : Nat} (a : Int) (t : Types) : types_edge_1 k a t = some (insB a t) := by
  simp only [types_edge_1, jn, insB]
  cases decide (a ≥ 0) <;> rfl
theorem ins_eq (a : Int) (t : Types) : (decide (a ≥ 0) && decide (a ≤ (t.fNodes.length : Int) - 1)) = insB a t := by
  unfold insB; rw [Bool.eq_iff_iff]; simp; omega
def edgeErr (t : Types) (i : Nat) : Int :=
  bif !isNameB (rd t.fEdges (i : Int)).fName then 2
  else bif anyN (fun j => (rd t.fEdges (j : Int)).fName == (rd t.fEdges (i : Int)).fName) 0 i then 5
  else bif insB (rd t.fEdges (i : Int)).fFrom t && (insB (rd t.fEdges (i : Int)).fTo t && (boundB (rd t.fEdges (i : Int)).fOutLow (rd t.fEdges (i : Int)).fOutHigh && boundB (rd t.fEdges (i : Int)).fInLow (rd t.fEdges (i : Int)).fInHigh)) then 0 else 6
theorem types_edge_eq {k : Nat} (hk : 200 ≤ k) {t : Types} (ht : FewT t) {i : Nat} (hi : i < t.fEdges.length) : types_edge k t (i : Int) = some (edgeErr t i) := by
  have h20 := ht.edges
  have h1 : (0 : Int) ≤ (i : Int) ∧ (i : Int) < (t.fEdges.length : Int) := by omega
  have hm := rd_mem h1.1 h1.2
  have h3 : (t.fEdges.take (i : Int).toNat).length = i := by simp; omega
  have h4 := token_IsName_eq (k := k) hk (rd t.fEdges (i : Int)).fName (by have := ht.ename _ hm; omega)
  have h5 := ContainsFunc_EdgeType (k := k) (t.fEdges.take (i : Int).toNat) (fun x => types_edge_2 k x (rd t.fEdges (i : Int))) _ (by omega) (by omega) (fun j _ => rfl)
  rw [h3, anyN_congr (q := fun j => (rd t.fEdges (j : Int)).fName == (rd t.fEdges (i : Int)).fName) (fun j _ hj => by rw [show (i : Int).toNat = i from rfl, rd_take hj])] at h5
  unfold types_edge edgeErr
  simp only [gd h1, h4, Option.bind_some, gd (show (0 : Int) ≤ (i : Int) ∧ (i : Int) ≤ (t.fEdges.length : Int) by omega), h5, jn, types_edge_1_eq, types_bounded_eq]
  cases isNameB (rd t.fEdges (i : Int)).fName <;> cases anyN (fun j => (rd t.fEdges (j : Int)).fName == (rd t.fEdges (i : Int)).fName) 0 i <;> cases insB (rd t.fEdges (i : Int)).fFrom t <;> cases insB (rd t.fEdges (i : Int)).fTo t <;>
    cases boundB (rd t.fEdges (i : Int)).fOutLow (rd t.fEdges (i : Int)).fOutHigh <;> cases boundB (rd t.fEdges (i : Int)).fInLow (rd t.fEdges (i : Int)).fInHigh <;> rfl
theorem ref04_edge_eq {k : Nat} (hk : 200 ≤ k) {t : Types} (ht : FewT t) {i : Nat} (hi : i < t.fEdges.length) : ref04_edge k t (i : Int) = some (edgeErr t i) := by
  have h20 := ht.edges
  have h21 := ht.nodes
  have h1 : (0 : Int) ≤ (i : Int) ∧ (i : Int) < (t.fEdges.length : Int) := by omega
  have hm := rd_mem h1.1 h1.2
  have h4 := ref01_IsName_eq (k := k) hk (rd t.fEdges (i : Int)).fName (by have := ht.ename _ hm; omega)
  unfold ref04_edge edgeErr
  rw [gd h1, h4, Option.bind_some]
  cases isNameB (rd t.fEdges (i : Int)).fName with
  | false => rfl
  | true =>
    rw [Bool.not_true, cond_false, cond_false, show (0 : Int) = ((0 : Nat) : Int) from rfl]
    refine loop1_eq (fun j => bif anyN (fun j => (rd t.fEdges (j : Int)).fName == (rd t.fEdges (i : Int)).fName) j i then (5 : Int) else _) i (fun rec => ?_) (fun j hj rec ih => ?_) (Nat.zero_le _) (by omega)
    · rw [anyN_end, cond_false]
      simp only [ref04_edge.b0, show decide ((i : Int) < (i : Int)) = false by simp, cond_false, gd (inR_of (x := (t.fNodes.length : Int) - 1) (by omega)), ref04_in_eq, ins_eq, ref04_bound_eq, Option.bind_some, jn]
      cases insB (rd t.fEdges (i : Int)).fFrom t <;> cases insB (rd t.fEdges (i : Int)).fTo t <;>
        cases boundB (rd t.fEdges (i : Int)).fOutLow (rd t.fEdges (i : Int)).fOutHigh <;> cases boundB (rd t.fEdges (i : Int)).fInLow (rd t.fEdges (i : Int)).fInHigh <;> rfl
    · rw [anyN_step hj]
      simp only [ref04_edge.b0, show decide ((j : Int) < (i : Int)) = true by simp [hj], cond_true, gd (show (0 : Int) ≤ (j : Int) ∧ (j : Int) < (t.fEdges.length : Int) by omega), gd (inR_nat (n := j) (by omega)), ih]
      cases ((rd t.fEdges (j : Int)).fName == (rd t.fEdges (i : Int)).fName) <;> rfl
def valid2S (t : Types) (i : Nat) : Int := bif scan (nodeErr t) i t.fNodes.length != 0 then scan (nodeErr t) i t.fNodes.length else scan (edgeErr t) 0 t.fEdges.length
def validS (t : Types) : Int :=
  bif ((t.fNodes.length : Int) == 0) then 7 else bif decide ((t.fNodes.length : Int) > 12) || decide ((t.fEdges.length : Int) > 20) then 3 else valid2S t 0
theorem types_Valid_out {k : Nat} (hk : 200 ≤ k) {t : Types} (ht : FewT t) : Out (types_Valid k t) (fun r => r.2 = validS t) := by
  have h20 := ht.nodes
  have h30 := ht.edges
  unfold types_Valid validS; simp only [jn]
  cases ((t.fNodes.length : Int) == 0) with
  | true => exact ⟨_, rfl, rfl⟩
  | false =>
    cases decide ((t.fNodes.length : Int) > 12) with
    | true => exact ⟨_, rfl, rfl⟩
    | false =>
      cases decide ((t.fEdges.length : Int) > 20) with
      | true => exact ⟨_, rfl, rfl⟩
      | false =>
        refine loop1_out (I := fun i => WfP t.fNodes i) (P := fun i (r : Str × Int) => r.2 = valid2S t i) t.fNodes.length (fun w rec => ?_) (fun i hi w rec ih => ?_) k 0 (Nat.zero_le _) (by omega) ⟨Nat.zero_le _, fun j hj => by omega⟩
        · simp only [types_Valid.b0, show decide ((t.fNodes.length : Int) < (t.fNodes.length : Int)) = false by simp, cond_false, valid2S, scan_end, bne_self_eq_false]
          refine loop1_out (I := fun _ => True) (P := fun i (r : Str × Int) => r.2 = scan (edgeErr t) i t.fEdges.length) t.fEdges.length (fun _ rec => ?_) (fun i hi _ rec ih => ?_) k 0 (Nat.zero_le _) (by omega) trivial
          · simp only [types_Valid.b1, show decide ((t.fEdges.length : Int) < (t.fEdges.length : Int)) = false by simp, cond_false, scan_end]
            exact ⟨_, rfl, rfl⟩
          · rw [scan_step hi]
            simp only [types_Valid.b1, show decide ((i : Int) < (t.fEdges.length : Int)) = true by simp [hi], cond_true, gd (show (0 : Int) ≤ (i : Int) ∧ (i : Int) < (t.fEdges.length : Int) by omega), types_edge_eq hk ht hi, Option.bind_some, gd (inR_nat (n := i) (by omega))]
            cases (edgeErr t i != 0) with
            | true => exact ⟨_, rfl, rfl⟩
            | false => exact ih trivial
        · unfold valid2S
          rw [scan_step hi]
          simp only [types_Valid.b0, show decide ((i : Int) < (t.fNodes.length : Int)) = true by simp [hi], cond_true, gd (show (0 : Int) ≤ (i : Int) ∧ (i : Int) < (t.fNodes.length : Int) by omega), types_node_eq hk ht hi w, Option.bind_some, gd (inR_nat (n := i) (by omega))]
          cases hz : (nodeErr t i != 0) with
          | true => exact ⟨_, rfl, by rw [cond_true, hz]; rfl⟩
          | false => exact ih (nodeErr_wf w hi (by simpa using hz))
theorem ref04_Valid_out {k : Nat} (hk : 200 ≤ k) {t : Types} (ht : FewT t) : Out (ref04_Valid k t) (fun r => r.2 = validS t) := by
  have h20 := ht.nodes
  have h30 := ht.edges
  unfold ref04_Valid validS; simp only [jn]
  cases ((t.fNodes.length : Int) == 0) with
  | true => exact ⟨_, rfl, rfl⟩
  | false =>
    cases decide ((t.fNodes.length : Int) > 12) with
    | true => exact ⟨_, rfl, rfl⟩
    | false =>
      cases decide ((t.fEdges.length : Int) > 20) with
      | true => exact ⟨_, rfl, rfl⟩
      | false =>
        refine loop1_out (I := fun i => WfP t.fNodes i) (P := fun i (r : Str × Int) => r.2 = valid2S t i) t.fNodes.length (fun w rec => ?_) (fun i hi w rec ih => ?_) k 0 (Nat.zero_le _) (by omega) ⟨Nat.zero_le _, fun j hj => by omega⟩
        · simp only [ref04_Valid.b0, show decide ((t.fNodes.length : Int) < (t.fNodes.length : Int)) = false by simp, cond_false, valid2S, scan_end, bne_self_eq_false]
          refine loop1_out (I := fun _ => True) (P := fun i (r : Str × Int) => r.2 = scan (edgeErr t) i t.fEdges.length) t.fEdges.length (fun _ rec => ?_) (fun i hi _ rec ih => ?_) k 0 (Nat.zero_le _) (by omega) trivial
          · simp only [ref04_Valid.b1, show decide ((t.fEdges.length : Int) < (t.fEdges.length : Int)) = false by simp, cond_false, scan_end]
            exact ⟨_, rfl, rfl⟩
          · rw [scan_step hi]
            simp only [ref04_Valid.b1, show decide ((i : Int) < (t.fEdges.length : Int)) = true by simp [hi], cond_true, gd (show (0 : Int) ≤ (i : Int) ∧ (i : Int) < (t.fEdges.length : Int) by omega), ref04_edge_eq hk ht hi, Option.bind_some, gd (inR_nat (n := i) (by omega))]
            cases (edgeErr t i != 0) with
            | true => exact ⟨_, rfl, rfl⟩
            | false => exact ih trivial
        · unfold valid2S
          rw [scan_step hi]
          simp only [ref04_Valid.b0, show decide ((i : Int) < (t.fNodes.length : Int)) = true by simp [hi], cond_true, gd (show (0 : Int) ≤ (i : Int) ∧ (i : Int) < (t.fNodes.length : Int) by omega), ref04_node_eq hk ht hi w, Option.bind_some, gd (inR_nat (n := i) (by omega))]
          cases hz : (nodeErr t i != 0) with
          | true => exact ⟨_, rfl, by rw [cond_true, hz]; rfl⟩
          | false => exact ih (nodeErr_wf w hi (by simpa using hz))
theorem valid_wf {t : Types} (h : validS t = 0) : WfP t.fNodes t.fNodes.length ∧ t.fNodes.length ≤ 12 ∧ t.fEdges.length ≤ 20 := by
  unfold validS at h
  cases h0 : ((t.fNodes.length : Int) == 0) with
  | true => rw [h0] at h; simp at h
  | false =>
    cases h1 : decide ((t.fNodes.length : Int) > 12) || decide ((t.fEdges.length : Int) > 20) with
    | true => rw [h0, h1] at h; simp at h
    | false =>
      simp only [Bool.or_eq_false_iff, decide_eq_false_iff_not] at h1
      rw [h0] at h
      have h1' : (decide ((t.fNodes.length : Int) > 12) || decide ((t.fEdges.length : Int) > 20)) = false := by simp; omega
      rw [h1'] at h
      simp only [cond_false, valid2S] at h
      have hz : scan (nodeErr t) 0 t.fNodes.length = 0 := by
        cases hb : (scan (nodeErr t) 0 t.fNodes.length != 0) with
        | true => rw [hb] at h; exact h
        | false => simpa using hb
      refine ⟨?_, by omega, by omega⟩
      have : ∀ i, i ≤ t.fNodes.length → WfP t.fNodes i := by
        intro i
        induction i with
        | zero => intro _; exact ⟨Nat.zero_le _, fun j hj => by omega⟩
        | succ i ih => intro hi; exact nodeErr_wf (ih (by omega)) (by omega) (scan_zero hz i (Nat.zero_le _) (by omega))
      exact this _ (Nat.le_refl _)
def kindB (x : Int) : Bool := decide (x ≥ 0) && decide (x ≤ 99)
def ltB (x n : Int) : Bool := decide (x ≥ 0) && decide (x < n)
def rightB (e : Edge) (n : Int) : Bool := kindB e.fType && (ltB e.fFrom n && ltB e.fTo n)
theorem graph_within_eq {k : Nat} (a b : Int) : graph_within k a b = some (decide (a ≥ 0) && decide (a ≤ b)) := by
  simp only [graph_within, jn]; cases decide (a ≥ 0) <;> rfl
theorem graph_fits_eq {k : Nat} (e : Edge) {n : Int} (hn : inR (n - 1)) : graph_fits k e n = some (rightB e n) := by
  simp only [graph_fits, jn, graph_within_eq, Option.bind_some, gd hn, rightB, kindB, ltB]
  have h1 : decide (e.fFrom ≤ n - 1) = decide (e.fFrom < n) := by rw [Bool.eq_iff_iff]; simp; omega
  have h2 : decide (e.fTo ≤ n - 1) = decide (e.fTo < n) := by rw [Bool.eq_iff_iff]; simp; omega
  rw [h1, h2]
  cases (decide (e.fType ≥ 0) && decide (e.fType ≤ 99)) <;> cases (decide (e.fFrom ≥ 0) && decide (e.fFrom < n)) <;> rfl
theorem ref05_kind_eq {k : Nat} (a : Int) : ref05_kind k a = some (kindB a) := by
  simp only [ref05_kind, jn, kindB]; cases decide (a ≥ 0) <;> rfl
theorem ref05_right_eq {k : Nat} (e : Edge) (n : Int) : ref05_right k e n = some (rightB e n) := by
  simp only [ref05_right, jn, ref05_kind_eq, Option.bind_some, rightB, ltB]
  cases kindB e.fType <;> cases decide (e.fFrom ≥ 0) <;> cases decide (e.fFrom < n) <;> cases decide (e.fTo ≥ 0) <;> rfl
structure FewG (g : Graph) : Prop where
  nodes : g.fNodes.length ≤ 45
  edges : g.fEdges.length ≤ 90
def edges6 (g : Graph) (i : Nat) : Int := bif anyN (fun j => !rightB (rd g.fEdges (j : Int)) (g.fNodes.length : Int)) i g.fEdges.length then 6 else 0
def nodes6 (g : Graph) (i : Nat) : Int := bif anyN (fun j => !kindB (rd g.fNodes (j : Int))) i g.fNodes.length then 6 else edges6 g 0
def graphErr (g : Graph) : Int := bif decide ((g.fNodes.length : Int) > 40) || decide ((g.fEdges.length : Int) > 80) then 3 else nodes6 g 0
theorem graph_Valid_eq {k : Nat} (hk : 200 ≤ k) {g : Graph} (hg : FewG g) : graph_Valid k g = some (graphErr g) := by
  have h1 := hg.nodes; have h2 := hg.edges
  have h3 := ContainsFunc_int (k := k) g.fNodes (fun x => graph_Valid_1 k x) (fun j => !kindB (rd g.fNodes (j : Int))) (by omega) (by omega) (fun j _ => by simp only [graph_Valid_1, graph_within_eq, Option.bind_some, kindB])
  have h4 := ContainsFunc_Edge (k := k) g.fEdges (fun x => graph_Valid_2 k x g) (fun j => !rightB (rd g.fEdges (j : Int)) (g.fNodes.length : Int)) (by omega) (by omega)
    (fun j _ => by simp only [graph_Valid_2, graph_fits_eq _ (inR_of (x := (g.fNodes.length : Int) - 1) (by omega)), Option.bind_some])
  simp only [graph_Valid, jn, h3, h4, Option.bind_some, graphErr, nodes6, edges6]
  cases decide ((g.fNodes.length : Int) > 40) <;> cases decide ((g.fEdges.length : Int) > 80) <;> cases anyN (fun j => !kindB (rd g.fNodes (j : Int))) 0 g.fNodes.length <;> cases anyN (fun j => !rightB (rd g.fEdges (j : Int)) (g.fNodes.length : Int)) 0 g.fEdges.length <;> rfl
theorem ref05_Valid_eq {k : Nat} (hk : 200 ≤ k) {g : Graph} (hg : FewG g) : ref05_Valid k g = some (graphErr g) := by
  have h1 := hg.nodes; have h2 := hg.edges
  have h3 : loop1 k (ref05_Valid.b0 k g) ((0 : Nat) : Int) = some (nodes6 g 0) := by
    refine loop1_eq (fun i => nodes6 g i) g.fNodes.length (fun rec => ?_) (fun i hi rec ih => ?_) (Nat.zero_le _) (by omega)
    · simp only [ref05_Valid.b0, show decide ((g.fNodes.length : Int) < (g.fNodes.length : Int)) = false by simp, cond_false, nodes6, anyN_end]
      have h4 : loop1 k (ref05_Valid.b1 k g) ((0 : Nat) : Int) = some (edges6 g 0) := by
        refine loop1_eq (fun i => edges6 g i) g.fEdges.length (fun rec => ?_) (fun i hi rec ih => ?_) (Nat.zero_le _) (by omega)
        · simp only [ref05_Valid.b1, show decide ((g.fEdges.length : Int) < (g.fEdges.length : Int)) = false by simp, cond_false, edges6, anyN_end]
        · simp only [edges6] at ih
          simp only [edges6, anyN_step hi, ref05_Valid.b1, show decide ((i : Int) < (g.fEdges.length : Int)) = true by simp [hi], cond_true, gd (show (0 : Int) ≤ (i : Int) ∧ (i : Int) < (g.fEdges.length : Int) by omega), ref05_right_eq, Option.bind_some, gd (inR_nat (n := i) (by omega)), ih]
          cases rightB (rd g.fEdges (i : Int)) (g.fNodes.length : Int) with
          | true => simp only [Bool.not_true, cond_false, Bool.false_or]
          | false => simp only [Bool.not_false, cond_true, Bool.true_or]
      exact h4
    · simp only [nodes6] at ih
      simp only [nodes6, anyN_step hi, ref05_Valid.b0, show decide ((i : Int) < (g.fNodes.length : Int)) = true by simp [hi], cond_true, gd (show (0 : Int) ≤ (i : Int) ∧ (i : Int) < (g.fNodes.length : Int) by omega), ref05_kind_eq, Option.bind_some, gd (inR_nat (n := i) (by omega)), ih]
      cases kindB (rd g.fNodes (i : Int)) with
      | true => simp only [Bool.not_true, cond_false, Bool.false_or]
      | false => simp only [Bool.not_false, cond_true, Bool.true_or]
  have h4 : loop1 k (ref05_Valid.b0 k g) 0 = some (nodes6 g 0) := h3
  simp only [ref05_Valid, jn, h4, graphErr]
  cases decide ((g.fNodes.length : Int) > 40) <;> cases decide ((g.fEdges.length : Int) > 80) <;> rfl
structure GoodG (g : Graph) : Prop where
  nodes : g.fNodes.length ≤ 40
  edges : g.fEdges.length ≤ 80
  kind : ∀ j : Nat, j < g.fNodes.length → 0 ≤ rd g.fNodes (j : Int) ∧ rd g.fNodes (j : Int) ≤ 99
  right : ∀ j : Nat, j < g.fEdges.length → 0 ≤ (rd g.fEdges (j : Int)).fType ∧ (0 ≤ (rd g.fEdges (j : Int)).fFrom ∧ (rd g.fEdges (j : Int)).fFrom < (g.fNodes.length : Int)) ∧ (0 ≤ (rd g.fEdges (j : Int)).fTo ∧ (rd g.fEdges (j : Int)).fTo < (g.fNodes.length : Int))
theorem anyN_false {p : Nat → Bool} {i n : Nat} (h : anyN p i n = false) : ∀ j, i ≤ j → j < n → p j = false := fun j h1 h2 => by
  cases hp : p j with
  | false => rfl
  | true => rw [anyN_iff.2 ⟨j, h1, h2, hp⟩] at h; cases h
theorem anyN_none {p : Nat → Bool} {i n : Nat} (h : ∀ j, i ≤ j → j < n → p j = false) : anyN p i n = false := by
  cases hp : anyN p i n with
  | false => rfl
  | true => obtain ⟨j, h1, h2, h3⟩ := anyN_iff.1 hp; rw [h j h1 h2] at h3; cases h3
theorem graphErr_good {g : Graph} (h : graphErr g = 0) : GoodG g := by
  unfold graphErr nodes6 edges6 at h
  cases h0 : decide ((g.fNodes.length : Int) > 40) || decide ((g.fEdges.length : Int) > 80) with
  | true => rw [h0] at h; simp at h
  | false =>
    rw [h0] at h
    cases h1 : anyN (fun j => !kindB (rd g.fNodes (j : Int))) 0 g.fNodes.length with
    | true => rw [h1] at h; simp at h
    | false =>
      rw [h1] at h
      cases h2 : anyN (fun j => !rightB (rd g.fEdges (j : Int)) (g.fNodes.length : Int)) 0 g.fEdges.length with
      | true => rw [h2] at h; simp at h
      | false =>
        simp only [Bool.or_eq_false_iff, decide_eq_false_iff_not] at h0
        refine ⟨by omega, by omega, fun j hj => ?_, fun j hj => ?_⟩
        · have := anyN_false h1 j (Nat.zero_le _) hj
          simp only [kindB, Bool.not_eq_false', Bool.and_eq_true, decide_eq_true_eq] at this
          omega
        · have := anyN_false h2 j (Nat.zero_le _) hj
          simp only [rightB, kindB, ltB, Bool.not_eq_false', Bool.and_eq_true, decide_eq_true_eq] at this
          omega
def typedB (t : Types) (g : Graph) : Bool := !anyN (fun j => decide (rd g.fNodes (j : Int) ≥ (t.fNodes.length : Int))) 0 g.fNodes.length && !anyN (fun j => decide ((rd g.fEdges (j : Int)).fType ≥ (t.fEdges.length : Int))) 0 g.fEdges.length
def typed1 (t : Types) (g : Graph) (i : Nat) : Bool := !anyN (fun j => decide ((rd g.fEdges (j : Int)).fType < 0) || decide ((rd g.fEdges (j : Int)).fType ≥ (t.fEdges.length : Int))) i g.fEdges.length
def typed0 (t : Types) (g : Graph) (i : Nat) : Bool := !anyN (fun j => decide (rd g.fNodes (j : Int) < 0) || decide (rd g.fNodes (j : Int) ≥ (t.fNodes.length : Int))) i g.fNodes.length && typed1 t g 0
theorem ref17_Typed_eq {k : Nat} (hk : 200 ≤ k) (t : Types) {g : Graph} (hg : GoodG g) : ref17_Typed k t g = some (typedB t g) := by
  have h1 := hg.nodes; have h2 := hg.edges
  have h3 : loop1 k (ref17_Typed.b0 k t g) ((0 : Nat) : Int) = some (typed0 t g 0) := by
    refine loop1_eq (fun i => typed0 t g i) g.fNodes.length (fun rec => ?_) (fun i hi rec ih => ?_) (Nat.zero_le _) (by omega)
    · simp only [ref17_Typed.b0, show decide ((g.fNodes.length : Int) < (g.fNodes.length : Int)) = false by simp, cond_false, typed0, anyN_end, Bool.not_false, Bool.true_and]
      have h4 : loop1 k (ref17_Typed.b1 t g) ((0 : Nat) : Int) = some (typed1 t g 0) := by
        refine loop1_eq (fun i => typed1 t g i) g.fEdges.length (fun rec => ?_) (fun i hi rec ih => ?_) (Nat.zero_le _) (by omega)
        · simp only [ref17_Typed.b1, show decide ((g.fEdges.length : Int) < (g.fEdges.length : Int)) = false by simp, cond_false, typed1, anyN_end, Bool.not_false]
        · simp only [typed1] at ih
          simp only [typed1, anyN_step hi, ref17_Typed.b1, jn, show decide ((i : Int) < (g.fEdges.length : Int)) = true by simp [hi], cond_true, gd (show (0 : Int) ≤ (i : Int) ∧ (i : Int) < (g.fEdges.length : Int) by omega), gd (inR_nat (n := i) (by omega)), ih]
          cases decide ((rd g.fEdges (i : Int)).fType < 0) <;> cases decide ((rd g.fEdges (i : Int)).fType ≥ (t.fEdges.length : Int)) <;> simp
      exact h4
    · simp only [typed0] at ih
      simp only [typed0, anyN_step hi, ref17_Typed.b0, jn, show decide ((i : Int) < (g.fNodes.length : Int)) = true by simp [hi], cond_true, gd (show (0 : Int) ≤ (i : Int) ∧ (i : Int) < (g.fNodes.length : Int) by omega), gd (inR_nat (n := i) (by omega)), ih]
      cases decide (rd g.fNodes (i : Int) < 0) <;> cases decide (rd g.fNodes (i : Int) ≥ (t.fNodes.length : Int)) <;> simp
  have h5 : ref17_Typed k t g = some (typed0 t g 0) := h3
  rw [h5]; unfold typed0 typed1 typedB
  rw [anyN_congr (p := fun j => decide (rd g.fNodes (j : Int) < 0) || decide (rd g.fNodes (j : Int) ≥ (t.fNodes.length : Int))) (q := fun j => decide (rd g.fNodes (j : Int) ≥ (t.fNodes.length : Int))) (fun j _ hj => by
      rw [decide_eq_false (show ¬ rd g.fNodes (j : Int) < 0 by have := hg.kind j hj; omega), Bool.false_or]),
    anyN_congr (p := fun j => decide ((rd g.fEdges (j : Int)).fType < 0) || decide ((rd g.fEdges (j : Int)).fType ≥ (t.fEdges.length : Int))) (q := fun j => decide ((rd g.fEdges (j : Int)).fType ≥ (t.fEdges.length : Int))) (fun j _ hj => by
      rw [decide_eq_false (show ¬ (rd g.fEdges (j : Int)).fType < 0 by have := hg.right j hj; omega), Bool.false_or])]
theorem typedB_node {t : Types} {g : Graph} (h : typedB t g = true) {j : Nat} (hj : j < g.fNodes.length) : rd g.fNodes (j : Int) < (t.fNodes.length : Int) := by
  simp only [typedB, Bool.and_eq_true, Bool.not_eq_true'] at h
  have := anyN_false h.1 j (Nat.zero_le _) hj
  simp only [decide_eq_false_iff_not] at this; omega
def givenS (t : Types) (p g : Graph) : Int :=
  bif validS t != 0 then validS t else bif graphErr p != 0 then graphErr p else bif graphErr g != 0 then graphErr g else bif typedB t p && typedB t g then 0 else 13
structure Small (t : Types) (p g : Graph) : Prop where
  t : FewT t
  p : FewG p
  g : FewG g
structure Fine (t : Types) (p g : Graph) : Prop where
  ok : validS t = 0
  gp : GoodG p
  gg : GoodG g
  tp : typedB t p = true
  tg : typedB t g = true
theorem rd_cover {α : Type} [Inhabited α] {l : List α} {P : α → Prop} (h : ∀ j : Nat, j < l.length → P (rd l (j : Int))) : ∀ x ∈ l, P x := by
  intro x hx
  obtain ⟨i, hi, rfl⟩ := List.mem_iff_getElem.1 hx
  have := h i hi
  simpa [rd, List.getD, List.getElem?_eq_getElem hi] using this
structure FewN (n : NodeType) : Prop where
  name : n.fName.length ≤ 40
  attrs : n.fAttrs.length ≤ 30
  attr : ∀ j : Nat, j < n.fAttrs.length → FewA (rd n.fAttrs (j : Int))
theorem ref04_Few_out {k : Nat} (hk : 200 ≤ k) {t : Types} (hA : ∀ n ∈ t.fNodes, n.fAttrs.length ≤ 140737488351232) : Out (ref04_Few k t) (fun b => b = true → FewT t) := by
  unfold ref04_Few; simp only [jn]
  cases h0 : decide ((t.fNodes.length : Int) > 20) with
  | true => exact ⟨false, rfl, fun h => by cases h⟩
  | false =>
    cases h1 : decide ((t.fEdges.length : Int) > 30) with
    | true => exact ⟨false, rfl, fun h => by cases h⟩
    | false =>
      simp at h0 h1
      rw [cond_false, cond_false]
      refine (loop2_out (S := Int) (P := fun _ i b => b = true → (∀ j : Nat, i ≤ j → j < t.fNodes.length → FewN (rd t.fNodes (j : Int))) ∧ (∀ j : Nat, j < t.fEdges.length → (rd t.fEdges (j : Int)).fName.length ≤ 40))
        (I := fun s _ => 0 ≤ s ∧ s ≤ 30) t.fNodes.length (fun s hs rec => ?_) (fun s i hi hs rec ih => ?_) k 0 0 (Nat.zero_le _) (by omega) (by omega)).mono fun b hb e => ?_
      · simp only [ref04_Few.b0, show decide ((t.fNodes.length : Int) < (t.fNodes.length : Int)) = false by simp, cond_false]
        refine (loop1_out (I := fun _ => True) (P := fun i b => b = true → ∀ j : Nat, i ≤ j → j < t.fEdges.length → (rd t.fEdges (j : Int)).fName.length ≤ 40) t.fEdges.length (fun _ rec => ?_) (fun i hi _ rec ih => ?_) k 0 (Nat.zero_le _) (by omega) trivial).mono fun b hb e => ?_
        · simp only [ref04_Few.b3, show decide ((t.fEdges.length : Int) < (t.fEdges.length : Int)) = false by simp, cond_false]
          exact ⟨_, rfl, fun _ j h1 h2 => by omega⟩
        · rw [ref04_Few.b3, show decide ((i : Int) < (t.fEdges.length : Int)) = true by simp [hi], cond_true, gd (show (0 : Int) ≤ (i : Int) ∧ (i : Int) < (t.fEdges.length : Int) by omega), gd (inR_nat (n := i) (by omega))]
          cases hc : decide (((rd t.fEdges (i : Int)).fName.length : Int) > 40) with
          | true => exact ⟨false, rfl, fun h => by cases h⟩
          | false =>
            simp at hc
            refine (ih trivial).mono fun b hb e j h1 h2 => ?_
            rcases Nat.eq_or_lt_of_le h1 with rfl | h3
            · omega
            · exact hb e j h3 h2
        · exact ⟨fun j h1 h2 => by omega, fun j hj => hb e j (Nat.zero_le _) hj⟩
      · have hal := hA _ (rd_mem (l := t.fNodes) (x := (i : Int)) (by omega) (by omega))
        have g1 : (0 : Int) ≤ (i : Int) ∧ (i : Int) < (t.fNodes.length : Int) := by omega
        simp only [ref04_Few.b0, jn]
        rw [show decide ((i : Int) < (t.fNodes.length : Int)) = true by simp [hi], cond_true, gd g1, gd g1, gd (inR_of (x := s + ((rd t.fNodes (i : Int)).fAttrs.length : Int)) (by omega))]
        cases hc : decide (s + ((rd t.fNodes (i : Int)).fAttrs.length : Int) > 30) with
        | true => exact ⟨false, rfl, fun h => by cases h⟩
        | false =>
          cases hd : decide (((rd t.fNodes (i : Int)).fName.length : Int) > 40) with
          | true => exact ⟨false, rfl, fun h => by cases h⟩
          | false =>
            simp at hc hd
            rw [cond_false, cond_false]
            refine (loop1_out (I := fun _ => True) (P := fun a b => b = true → (∀ j : Nat, a ≤ j → j < (rd t.fNodes (i : Int)).fAttrs.length → FewA (rd (rd t.fNodes (i : Int)).fAttrs (j : Int))) ∧ (∀ j : Nat, i + 1 ≤ j → j < t.fNodes.length → FewN (rd t.fNodes (j : Int))) ∧ (∀ j : Nat, j < t.fEdges.length → (rd t.fEdges (j : Int)).fName.length ≤ 40))
              (rd t.fNodes (i : Int)).fAttrs.length (fun _ rec1 => ?_) (fun a ha _ rec1 ih1 => ?_) k 0 (Nat.zero_le _) (by omega) trivial).mono fun b hb e => ?_
            · simp only [ref04_Few.b1, gd g1, show decide ((((rd t.fNodes (i : Int)).fAttrs.length : Nat) : Int) < ((rd t.fNodes (i : Int)).fAttrs.length : Int)) = false by simp, cond_false, gd (inR_nat (n := i) (by omega))]
              exact (ih _ (by omega)).mono fun b hb e => ⟨fun j h1 h2 => by omega, hb e⟩
            · have g2 : (0 : Int) ≤ (a : Int) ∧ (a : Int) < ((rd t.fNodes (i : Int)).fAttrs.length : Int) := by omega
              simp only [ref04_Few.b1, jn]
              rw [gd g1, gd g1, gd g2, show decide ((a : Int) < ((rd t.fNodes (i : Int)).fAttrs.length : Int)) = true by simp [ha], cond_true]
              cases he : decide (((rd (rd t.fNodes (i : Int)).fAttrs (a : Int)).fName.length : Int) > 40) with
              | true => exact ⟨false, rfl, fun h => by cases h⟩
              | false =>
                cases hf : decide (((rd (rd t.fNodes (i : Int)).fAttrs (a : Int)).fNames.length : Int) > 25) with
                | true => exact ⟨false, rfl, fun h => by cases h⟩
                | false =>
                  simp at he hf
                  rw [cond_false, cond_false]
                  refine (loop1_out (I := fun _ => True) (P := fun m b => b = true → (∀ j : Nat, m ≤ j → j < (rd (rd t.fNodes (i : Int)).fAttrs (a : Int)).fNames.length → (rd (rd (rd t.fNodes (i : Int)).fAttrs (a : Int)).fNames (j : Int)).length ≤ 40) ∧ (∀ j : Nat, a + 1 ≤ j → j < (rd t.fNodes (i : Int)).fAttrs.length → FewA (rd (rd t.fNodes (i : Int)).fAttrs (j : Int))) ∧ (∀ j : Nat, i + 1 ≤ j → j < t.fNodes.length → FewN (rd t.fNodes (j : Int))) ∧ (∀ j : Nat, j < t.fEdges.length → (rd t.fEdges (j : Int)).fName.length ≤ 40))
                    (rd (rd t.fNodes (i : Int)).fAttrs (a : Int)).fNames.length (fun _ rec2 => ?_) (fun m hm _ rec2 ih2 => ?_) k 0 (Nat.zero_le _) (by omega) trivial).mono fun b hb e => ?_
                  · simp only [ref04_Few.b2, show decide ((((rd (rd t.fNodes (i : Int)).fAttrs (a : Int)).fNames.length : Nat) : Int) < ((rd (rd t.fNodes (i : Int)).fAttrs (a : Int)).fNames.length : Int)) = false by simp, cond_false, gd (inR_nat (n := a) (by omega))]
                    exact (ih1 trivial).mono fun b hb e => ⟨fun j h1 h2 => by omega, hb e⟩
                  · rw [ref04_Few.b2, show decide ((m : Int) < ((rd (rd t.fNodes (i : Int)).fAttrs (a : Int)).fNames.length : Int)) = true by simp [hm], cond_true, gd (show (0 : Int) ≤ (m : Int) ∧ (m : Int) < ((rd (rd t.fNodes (i : Int)).fAttrs (a : Int)).fNames.length : Int) by omega), gd (inR_nat (n := m) (by omega))]
                    cases hc : decide (((rd (rd (rd t.fNodes (i : Int)).fAttrs (a : Int)).fNames (m : Int)).length : Int) > 40) with
                    | true => exact ⟨false, rfl, fun h => by cases h⟩
                    | false =>
                      simp at hc
                      refine (ih2 trivial).mono fun b hb e => ⟨fun j h1 h2 => ?_, (hb e).2⟩
                      rcases Nat.eq_or_lt_of_le h1 with rfl | h3
                      · omega
                      · exact (hb e).1 j h3 h2
                  · refine ⟨fun j h1 h2 => ?_, (hb e).2.2⟩
                    rcases Nat.eq_or_lt_of_le h1 with rfl | h3
                    · exact ⟨by omega, by omega, rd_cover fun j hj => (hb e).1 j (Nat.zero_le _) hj⟩
                    · exact (hb e).2.1 j h3 h2
            · refine ⟨fun j h1 h2 => ?_, (hb e).2.2⟩
              rcases Nat.eq_or_lt_of_le h1 with rfl | h3
              · exact ⟨by omega, by omega, fun j hj => (hb e).1 j (Nat.zero_le _) hj⟩
              · exact (hb e).2.1 j h3 h2
      · obtain ⟨hn, he⟩ := hb e
        have hn' : ∀ x ∈ t.fNodes, FewN x := rd_cover fun j hj => hn j (Nat.zero_le _) hj
        exact ⟨by omega, by omega, fun n h => (hn' n h).name, fun n h => (hn' n h).attrs, fun n h => rd_cover (hn' n h).attr, rd_cover he⟩
theorem ref05_Few_eq {k : Nat} (g : Graph) : ref05_Few k g = some (decide ((g.fNodes.length : Int) ≤ 45) && decide ((g.fEdges.length : Int) ≤ 90)) := by
  simp only [ref05_Few, jn]; cases decide ((g.fNodes.length : Int) ≤ 45) <;> rfl
structure LightP (t : Types) (p g : Graph) : Prop where
  small : Small t p g
  few : givenS t p g = 0 → p.fNodes.length + p.fEdges.length ≤ 6 ∧ g.fNodes.length ≤ 8 ∧ g.fEdges.length ≤ 12
def chain (ns : List NodeType) : Nat → Int → List Int
  | 0, _ => []
  | d + 1, a => bif decide (a < 0) then [] else a :: chain ns d (rd ns a).fParent
def isB (ns : List NodeType) (a b : Int) : Bool := decide (b ∈ chain ns 100 a)
theorem types_given_eq {k : Nat} (hk : 200 ≤ k) {t : Types} (ht : FewT t) (hv : validS t = 0) {a : Int} (h0 : 0 ≤ a) (ha : a < (t.fNodes.length : Int)) : types_given k t [a] = some 0 := by
  obtain ⟨r, e, hr⟩ := types_Valid_out hk ht
  unfold types_given
  rw [e, Option.bind_some, hr, hv]
  rw [ContainsFunc_int (k := k) [a] (fun x => types_given_1 k x t) (fun j => decide (rd [a] (j : Int) < 0) || decide (rd [a] (j : Int) ≥ (t.fNodes.length : Int))) (by simp; omega) (by simp) (fun j _ => by
    simp only [types_given_1, jn]; cases decide (rd [a] (j : Int) < 0) <;> rfl)]
  rw [anyN_none fun j _ hj => ?_]
  · rfl
  · have : j = 0 := by simp at hj; omega
    subst this
    have e : rd [a] ((0 : Nat) : Int) = a := rfl
    rw [e, decide_eq_false (by omega), decide_eq_false (by omega)]; rfl
structure Table (ns : List NodeType) (M : List (List Bool)) (i : Nat) : Prop where
  len : M.length = i
  row : ∀ a : Nat, a < i → (rd M (a : Int)).length = ns.length
  at' : ∀ a : Nat, a < i → ∀ b : Nat, b < ns.length → rd (rd M (a : Int)) (b : Int) = isB ns (b : Int) (a : Int)
structure InstP (p g : Graph) (m : Morphism) (r : Graph × Int) : Prop where
  ok : r.2 = 0
  edges : r.1.fEdges = p.fEdges
  len : r.1.fNodes.length = m.fNodes.length
  at' : ∀ j : Nat, j < m.fNodes.length → rd r.1.fNodes (j : Int) = rd g.fNodes (rd m.fNodes (j : Int))
structure Pb where
  p : Graph
  g : Graph
  ns : List NodeType
  pn : Int → Int
  pe : Int → Int
  inj : Bool
def eqE (q : Pb) (l : List Int) (i k : Int) : Bool :=
  ((rd q.p.fEdges i).fType == (rd q.g.fEdges k).fType) && (((rd q.g.fEdges k).fFrom == rd l (rd q.p.fEdges i).fFrom) && ((rd q.g.fEdges k).fTo == rd l (rd q.p.fEdges i).fTo))
def cut (N : Nat) (o L : List Morphism) : List Morphism := (o ++ L).take N
def pO (o : Option (List Int)) (i : Int) : Int := match o with
  | none => -1
  | some l => rd l i
structure Ctx (q : Pb) : Prop where
  gp : GoodG q.p
  gg : GoodG q.g
  tp : ∀ j : Nat, j < q.p.fNodes.length → rd q.p.fNodes (j : Int) < (q.ns.length : Int)
  tg : ∀ j : Nat, j < q.g.fNodes.length → rd q.g.fNodes (j : Int) < (q.ns.length : Int)
  wf : WfP q.ns q.ns.length
  few : q.ns.length ≤ 50
structure FinP (q : Pb) (M : List (List Bool)) (part : OMorphism) : Prop where
  tab : Table q.ns M q.ns.length
  pn : ∀ i : Nat, i < q.p.fNodes.length → pO part.fNodes (i : Int) = q.pn (i : Int) ∧ ∀ l, part.fNodes = some l → (i : Int) < (l.length : Int)
  pe : ∀ i : Nat, i < q.p.fEdges.length → pO part.fEdges (i : Int) = q.pe (i : Int) ∧ ∀ l, part.fEdges = some l → (i : Int) < (l.length : Int)
theorem FinP.table {q : Pb} {M : List (List Bool)} {part : OMorphism} (f : FinP q M part) {a b : Int} (ha : 0 ≤ a ∧ a < (q.ns.length : Int)) (hb : 0 ≤ b ∧ b < (q.ns.length : Int)) :
    a < (M.length : Int) ∧ b < ((rd M a).length : Int) ∧ rd (rd M a) b = isB q.ns b a := by
  have h1 := f.tab.len
  have h2 := f.tab.row a.toNat (by omega)
  have h3 := f.tab.at' a.toNat (by omega) b.toNat (by omega)
  rw [Int.toNat_of_nonneg ha.1] at h2 h3
  rw [Int.toNat_of_nonneg hb.1] at h3
  exact ⟨by omega, by omega, h3⟩
structure RefP (q : Pb) (t : Types) (part : Morphism) : Prop where
  ns : t.fNodes = q.ns
  ln : part.fNodes.length = q.p.fNodes.length
  le : part.fEdges.length = q.p.fEdges.length
  pn : ∀ i : Nat, i < q.p.fNodes.length → rd part.fNodes (i : Int) = q.pn (i : Int)
  pe : ∀ i : Nat, i < q.p.fEdges.length → rd part.fEdges (i : Int) = q.pe (i : Int)
structure AllNeg (p : Graph) (m : Morphism) : Prop where
  ln : m.fNodes.length = p.fNodes.length
  le : m.fEdges.length = p.fEdges.length
  n : ∀ i : Nat, i < p.fNodes.length → rd m.fNodes (i : Int) = -1
  e : ∀ i : Nat, i < p.fEdges.length → rd m.fEdges (i : Int) = -1
structure EdgesOk (q : Pb) (l e : List Int) : Prop where
  fit : ∀ i : Nat, i < e.length → 0 ≤ rd e (i : Int) ∧ rd e (i : Int) < (q.g.fEdges.length : Int) ∧ eqE q l (i : Int) (rd e (i : Int)) = true
  inj : q.inj = true → e.Nodup
structure NodesOk (q : Pb) (l : List Int) : Prop where
  fit : ∀ i : Nat, i < l.length → 0 ≤ rd l (i : Int) ∧ rd l (i : Int) < (q.g.fNodes.length : Int) ∧ isB q.ns (rd q.g.fNodes (rd l (i : Int))) (rd q.p.fNodes (i : Int)) = true
  inj : q.inj = true → l.Nodup
theorem set_rd {α : Type} [Inhabited α] {l : List α} {i : Nat} (hi : i < l.length) : l.set i (rd l (i : Int)) = l := by
  have : rd l (i : Int) = l[i] := by simp [rd, List.getD, List.getElem?_eq_getElem hi]
  rw [this, List.set_getElem_self]
theorem take_rdA {α : Type} [Inhabited α] {l : List α} {i : Nat} (hi : i < l.length) : l.take (i + 1) = l.take i ++ [rd l (i : Int)] := by
  have : rd l (i : Int) = l[i] := by simp [rd, List.getD, List.getElem?_eq_getElem hi]
  rw [this, List.take_succ_eq_append_getElem hi]
theorem Attrs_eq {k : Nat} (hk : 1000 ≤ k) {t : Types} (ht : FewT t) (hv : validS t = 0) {a : Int} (h0 : 0 ≤ a) (ha : a < (t.fNodes.length : Int)) : types_Attrs k t a = some (attrsS t.fNodes t.fNodes.length a, 0) := by
  obtain ⟨w, h12, _⟩ := valid_wf hv
  have hl := attrsS_len w (fun x hx => ht.nattr x hx) t.fNodes.length a ha
  have hA := attrsS_all (G := FewA) w (fun x hx => ht.attr x hx) t.fNodes.length a ha
  unfold types_Attrs
  rw [types_given_eq (by omega) ht hv h0 ha, Option.bind_some, bne_self_eq_false, cond_false, types_attrs_eq w (fun x hx => ht.nattr x hx) t.fNodes.length k a (by omega) (by omega) h0 ha ha, Option.bind_some]
  generalize attrsS t.fNodes t.fNodes.length a = l at *
  refine Out.eq (loop2_out (S := List Attr) (P := fun _ _ r => r = (l, 0)) (I := fun s _ => s = l) l.length (fun s hs rec => ?_) (fun s i hi hs rec ih => ?_) k 0 l (Nat.zero_le _) (by omega) rfl)
  · rw [types_Attrs.b0, decide_eq_false (show ¬ (l.length : Int) < (l.length : Int) by omega), cond_false, hs]; exact ⟨_, rfl, rfl⟩
  · subst hs
    have hf := (hA _ (rd_mem (l := s) (x := (i : Int)) (by omega) (by omega))).names
    rw [types_Attrs.b0, decide_eq_true (show (i : Int) < (s.length : Int) by omega), cond_true, gd ⟨by omega, by omega⟩]
    unfold slices_Clone_string
    rw [gd (show (rd s (i : Int)).fNames.length ≤ lim by unfold lim; omega), Option.bind_some, gd ⟨by omega, by omega⟩, gd (inR_nat (n := i) (by omega))]
    exact ih _ (set_rd hi)
theorem ref04_given_eq {k : Nat} (hk : 200 ≤ k) {t : Types} (ht : FewT t) (hv : validS t = 0) {a b : Int} (h0 : 0 ≤ a) (ha : a < (t.fNodes.length : Int)) (g0 : 0 ≤ b) (gb : b < (t.fNodes.length : Int)) : ref04_given k t a b = some 0 := by
  obtain ⟨r, e, hr⟩ := ref04_Valid_out hk ht
  have h20 := ht.nodes
  unfold ref04_given jn; dsimp only
  rw [e, Option.bind_some, hr, hv, bne_self_eq_false, cond_false, gd (inR_of (by omega)), ref04_in_eq, Option.bind_some]
  rw [decide_eq_true (show a ≥ 0 by omega), decide_eq_true (show a ≤ (t.fNodes.length : Int) - 1 by omega), Bool.and_true, Bool.not_true, cond_false, gd (inR_of (by omega)), ref04_in_eq, Option.bind_some]
  rw [decide_eq_true (show b ≥ 0 by omega), decide_eq_true (show b ≤ (t.fNodes.length : Int) - 1 by omega)]; rfl
theorem ref04_Attrs_eq {k : Nat} (hk : 1000 ≤ k) {t : Types} (ht : FewT t) (hv : validS t = 0) {a : Int} (h0 : 0 ≤ a) (ha : a < (t.fNodes.length : Int)) : ref04_Attrs k t a = some (attrsS t.fNodes t.fNodes.length a, 0) := by
  obtain ⟨w, h12, _⟩ := valid_wf hv
  have hl := attrsS_len w (fun x hx => ht.nattr x hx) t.fNodes.length a ha
  have hA := attrsS_all (G := FewA) w (fun x hx => ht.attr x hx) t.fNodes.length a ha
  unfold ref04_Attrs
  rw [ref04_given_eq (by omega) ht hv h0 ha h0 ha, Option.bind_some, bne_self_eq_false, cond_false, ref04_attrs_eq w (fun x hx => ht.nattr x hx) t.fNodes.length k a (by omega) (by omega) ha ha, Option.bind_some]
  generalize attrsS t.fNodes t.fNodes.length a = l at *
  refine Out.eq (loop2_out (S := List Attr) (P := fun _ _ r => r = (l, 0)) (I := fun s i => s = l.take i) l.length (fun s hs rec => ?_) (fun s i hi hs rec ih => ?_) k 0 [] (Nat.zero_le _) (by omega) rfl)
  · rw [ref04_Attrs.b0, decide_eq_false (show ¬ (l.length : Int) < (l.length : Int) by omega), cond_false, hs, List.take_length]; exact ⟨_, rfl, rfl⟩
  · have hf := (hA _ (rd_mem (l := l) (x := (i : Int)) (by omega) (by omega))).names
    have hsl : s.length ≤ 360 := by rw [hs, List.length_take]; omega
    rw [ref04_Attrs.b0, decide_eq_true (show (i : Int) < (l.length : Int) by omega), cond_true, gd ⟨by omega, by omega⟩, gd (show (rd l (i : Int)).fNames.length ≤ lim by unfold lim; omega), gd (show s.length + [rd l (i : Int)].length ≤ lim by unfold lim; simp; omega), gd (inR_nat (n := i) (by omega))]
    exact ih _ (by rw [hs, take_rdA hi])
theorem within_eq {k : Nat} (a b c : Int) : attribute_within k a b c = some (decide (a ≥ b) && decide (a ≤ c)) := by
  unfold attribute_within jn; dsimp only
  cases decide (a ≥ b) <;> rfl
def noAttr : Attr × Bool := (Attr.mk [] 0 0 [], false)
def attrP (t : Types) (g : Graph) (n a : Int) : Attr × Bool :=
  if 0 ≤ n ∧ n < (g.fNodes.length : Int) then (if 0 ≤ a ∧ a < ((attrsS t.fNodes t.fNodes.length (rd g.fNodes n)).length : Int) then (rd (attrsS t.fNodes t.fNodes.length (rd g.fNodes n)) a, true) else noAttr) else noAttr
structure Over (t : Types) (g : Graph) : Prop where
  few : FewT t
  val : validS t = 0
  nodes : ∀ x ∈ g.fNodes, 0 ≤ x ∧ x < (t.fNodes.length : Int)
  len : g.fNodes.length ≤ 45
theorem Over.attrs {t : Types} {g : Graph} (h : Over t g) {n : Int} (h0 : 0 ≤ n) (h1 : n < (g.fNodes.length : Int)) : (attrsS t.fNodes t.fNodes.length (rd g.fNodes n)).length ≤ 360 := by
  obtain ⟨w, h12, _⟩ := valid_wf h.val
  have hm := h.nodes _ (rd_mem h0 h1)
  have := attrsS_len w (fun x hx => h.few.nattr x hx) t.fNodes.length _ hm.2
  omega
theorem attrP_yes {t : Types} {g : Graph} {n a : Int} (c : 0 ≤ n ∧ n < (g.fNodes.length : Int)) (d : 0 ≤ a ∧ a < ((attrsS t.fNodes t.fNodes.length (rd g.fNodes n)).length : Int)) :
    attrP t g n a = (rd (attrsS t.fNodes t.fNodes.length (rd g.fNodes n)) a, true) := by unfold attrP; rw [if_pos c, if_pos d]
theorem attrP_no {t : Types} {g : Graph} {n a : Int} (c : 0 ≤ n ∧ n < (g.fNodes.length : Int)) (d : ¬ (0 ≤ a ∧ a < ((attrsS t.fNodes t.fNodes.length (rd g.fNodes n)).length : Int))) : attrP t g n a = noAttr := by unfold attrP; rw [if_pos c, if_neg d]
theorem attrP_out {t : Types} {g : Graph} {n a : Int} (c : ¬ (0 ≤ n ∧ n < (g.fNodes.length : Int))) : attrP t g n a = noAttr := if_neg c
theorem attr_eq {k : Nat} (hk : 1000 ≤ k) {t : Types} {p : Pattern} (h : Over t p.fGraph) (s : Slot) : attribute_attr k t p s = some (attrP t p.fGraph s.fNode s.fAttr) := by
  have hn := h.len
  unfold attribute_attr
  rw [gd (inR_of (by omega)), within_eq, Option.bind_some]
  by_cases c : 0 ≤ s.fNode ∧ s.fNode < (p.fGraph.fNodes.length : Int)
  · have hm := h.nodes _ (rd_mem c.1 c.2)
    have hl := h.attrs c.1 c.2
    rw [decide_eq_true (show s.fNode ≥ 0 by omega), decide_eq_true (show s.fNode ≤ (p.fGraph.fNodes.length : Int) - 1 by omega), Bool.and_true, Bool.not_true, cond_false, gd c, Attrs_eq hk h.few h.val hm.1 hm.2, Option.bind_some]
    dsimp only
    rw [gd (inR_of (by omega)), within_eq, Option.bind_some]
    by_cases d : 0 ≤ s.fAttr ∧ s.fAttr < ((attrsS t.fNodes t.fNodes.length (rd p.fGraph.fNodes s.fNode)).length : Int)
    · rw [attrP_yes c d, decide_eq_true (show s.fAttr ≥ 0 by omega), decide_eq_true (show s.fAttr ≤ ((attrsS t.fNodes t.fNodes.length (rd p.fGraph.fNodes s.fNode)).length : Int) - 1 by omega), Bool.and_true, Bool.not_true, cond_false, gd d]
    · rw [attrP_no c d]
      have : (decide (s.fAttr ≥ 0) && decide (s.fAttr ≤ ((attrsS t.fNodes t.fNodes.length (rd p.fGraph.fNodes s.fNode)).length : Int) - 1)) = false := by
        rw [Bool.and_eq_false_iff, decide_eq_false_iff_not, decide_eq_false_iff_not]; omega
      rw [this, Bool.not_false, cond_true]; rfl
  · rw [attrP_out c]
    have : (decide (s.fNode ≥ 0) && decide (s.fNode ≤ (p.fGraph.fNodes.length : Int) - 1)) = false := by
      rw [Bool.and_eq_false_iff, decide_eq_false_iff_not, decide_eq_false_iff_not]; omega
    rw [this, Bool.not_false, cond_true]; rfl
theorem ref_attr_eq {k : Nat} (hk : 1000 ≤ k) {t : Types} {p : Pattern} (h : Over t p.fGraph) (n a : Int) : ref21_attr k t p n a = some (attrP t p.fGraph n a) := by
  unfold ref21_attr jn; dsimp only
  by_cases c : 0 ≤ n ∧ n < (p.fGraph.fNodes.length : Int)
  · have hm := h.nodes _ (rd_mem c.1 c.2)
    rw [decide_eq_false (show ¬ n < 0 by omega), decide_eq_false (show ¬ n ≥ (p.fGraph.fNodes.length : Int) by omega), cond_false, cond_false, gd c, ref04_Attrs_eq hk h.few h.val hm.1 hm.2, Option.bind_some]
    dsimp only
    rw [bne_self_eq_false, cond_false]
    by_cases d : 0 ≤ a ∧ a < ((attrsS t.fNodes t.fNodes.length (rd p.fGraph.fNodes n)).length : Int)
    · rw [attrP_yes c d, decide_eq_false (show ¬ a < 0 by omega), decide_eq_false (show ¬ a ≥ ((attrsS t.fNodes t.fNodes.length (rd p.fGraph.fNodes n)).length : Int) by omega), cond_false, cond_false, gd d]
    · rw [attrP_no c d]
      by_cases e : a < 0
      · rw [decide_eq_true e, cond_true, cond_true]; rfl
      · rw [decide_eq_false e, decide_eq_true (show a ≥ ((attrsS t.fNodes t.fNodes.length (rd p.fGraph.fNodes n)).length : Int) by omega), cond_false, cond_true]; rfl
  · rw [attrP_out c]
    by_cases e : n < 0
    · rw [decide_eq_true e, cond_true, cond_true]; rfl
    · rw [decide_eq_false e, decide_eq_true (show n ≥ (p.fGraph.fNodes.length : Int) by omega), cond_false, cond_true]; rfl
def termB (n : Int) (x : Term) : Bool := decide (x.fVar ≥ -1) && (decide (x.fVar < n) && (decide (x.fAdd ≥ -1000000) && decide (x.fAdd ≤ 1000000)))
theorem term_eqB {k : Nat} (n : Int) (x : Term) : difference_term k n x = some (termB n x) := by
  unfold difference_term termB jn; dsimp only
  cases decide (x.fVar ≥ -1) <;> cases decide (x.fVar < n) <;> cases decide (x.fAdd ≥ -1000000) <;> rfl
theorem ref_term_eq {k : Nat} (n : Int) (x : Term) : ref03_within k n x = some (bif termB n x then 0 else 6) := by
  unfold ref03_within termB jn; dsimp only
  rw [show decide (x.fVar < -1) = !decide (x.fVar ≥ -1) by rw [Bool.eq_iff_iff]; simp <;> omega, show decide (x.fVar ≥ n) = !decide (x.fVar < n) by rw [Bool.eq_iff_iff]; simp,
    show decide (x.fAdd < -1000000) = !decide (x.fAdd ≥ -1000000) by rw [Bool.eq_iff_iff]; simp, show decide (x.fAdd > 1000000) = !decide (x.fAdd ≤ 1000000) by rw [Bool.eq_iff_iff]; simp]
  cases decide (x.fVar ≥ -1) <;> cases decide (x.fVar < n) <;> cases decide (x.fAdd ≥ -1000000) <;> cases decide (x.fAdd ≤ 1000000) <;> rfl
def testE (n : Int) (x : Test) : Int := bif (x.fKind != 1) && (x.fKind != 2) then 1 else bif termB n x.fLeft && termB n x.fRight then 0 else 6
theorem one_eq {k : Nat} (n : Int) (x : Test) : difference_one k n x = some (testE n x) := by
  unfold difference_one testE jn; dsimp only
  rw [term_eqB, term_eqB, Option.bind_some, Option.bind_some]
  cases (x.fKind != 1) <;> cases (x.fKind != 2) <;> cases termB n x.fLeft <;> cases termB n x.fRight <;> rfl
theorem ref_one_eq {k : Nat} (n : Int) (x : Test) : ref03_One k n x = some (testE n x) := by
  unfold ref03_One testE jn; dsimp only
  rw [ref_term_eq, ref_term_eq, Option.bind_some, Option.bind_some]
  cases (x.fKind != 1) <;> cases (x.fKind != 2) <;> cases termB n x.fLeft <;> cases termB n x.fRight <;> rfl
def testsE (n : Int) (l : List Test) : Int :=
  bif decide (n < 0) || decide (n > 12) then 6 else bif decide ((l.length : Int) > 40) then 3 else scan (fun i => testE n (rd l (i : Int))) 0 l.length
theorem tests_eq {k : Nat} (hk : 200 ≤ k) (n : Int) (l : List Test) : difference_Valid k n l = some (testsE n l) := by
  unfold difference_Valid testsE jn; dsimp only
  have key : decide ((l.length : Int) > 40) = false → loop1 k (difference_Valid.b0 k n l) 0 = some (scan (fun i => testE n (rd l (i : Int))) 0 l.length) := fun h => by
    have h' : l.length ≤ 40 := by have := of_decide_eq_false h; omega
    refine loop1_eq (fun i => scan (fun i => testE n (rd l (i : Int))) i l.length) l.length (fun rec => ?_) (fun i hi rec ih => ?_) (k := k) (i := 0) (Nat.zero_le _) (by omega)
    · rw [difference_Valid.b0, decide_eq_false (show ¬ (l.length : Int) < (l.length : Int) by omega), cond_false, scan_end]
    · rw [difference_Valid.b0, decide_eq_true (show (i : Int) < (l.length : Int) by omega), cond_true, gd ⟨by omega, by omega⟩, one_eq, Option.bind_some, gd (inR_nat (n := i) (by omega)), ih, scan_step hi]
      cases (testE n (rd l (i : Int)) != 0) <;> rfl
  cases decide (n < 0) <;> cases decide (n > 12) <;> first | rfl | (cases h : decide ((l.length : Int) > 40) <;> first | rfl | exact key h)
theorem ref_tests_eq {k : Nat} (hk : 200 ≤ k) (n : Int) (l : List Test) : ref03_Valid k n l = some (testsE n l) := by
  unfold ref03_Valid testsE jn; dsimp only
  have key : decide ((l.length : Int) > 40) = false → loop1 k (ref03_Valid.b0 k n l) 0 = some (scan (fun i => testE n (rd l (i : Int))) 0 l.length) := fun h => by
    have h' : l.length ≤ 40 := by have := of_decide_eq_false h; omega
    refine loop1_eq (fun i => scan (fun i => testE n (rd l (i : Int))) i l.length) l.length (fun rec => ?_) (fun i hi rec ih => ?_) (k := k) (i := 0) (Nat.zero_le _) (by omega)
    · rw [ref03_Valid.b0, decide_eq_false (show ¬ (l.length : Int) < (l.length : Int) by omega), cond_false, scan_end]
    · rw [ref03_Valid.b0, decide_eq_true (show (i : Int) < (l.length : Int) by omega), cond_true, gd ⟨by omega, by omega⟩, ref_one_eq, Option.bind_some, gd (inR_nat (n := i) (by omega)), ih, scan_step hi]
      cases (testE n (rd l (i : Int)) != 0) <;> rfl
  cases decide (n < 0) <;> cases decide (n > 12) <;> first | rfl | (cases h : decide ((l.length : Int) > 40) <;> first | rfl | exact key h)
theorem Contains_bool {k : Nat} (l : List Bool) (a : Bool) (hk : l.length < k) (hl : l.length ≤ 1000000) :
    slices_Contains_bool k l a = some (anyN (fun j => a == rd l (j : Int)) 0 l.length) := ix_contains l (fun x => some (a == x)) _ k hk hl (fun _ _ => rfl)
def slotBad (t : Types) (p : Pattern) (i : Nat) : Bool :=
  !(attrP t p.fGraph (rd p.fSlots (i : Int)).fNode (rd p.fSlots (i : Int)).fAttr).2 || (!(decide ((rd p.fSlots (i : Int)).fTerm.fVar ≥ -1) && decide ((rd p.fSlots (i : Int)).fTerm.fVar < p.fVars)) || !(decide ((rd p.fSlots (i : Int)).fTerm.fAdd ≥ -1000000) && decide ((rd p.fSlots (i : Int)).fTerm.fAdd ≤ 1000000)))
def hasVar (p : Pattern) (i : Nat) (v : Nat) : Bool := anyN (fun j => (rd p.fSlots (j : Int)).fTerm.fVar == (v : Int)) i p.fSlots.length
def unusedE (p : Pattern) (v : Nat) : Int := bif anyN (fun v => !hasVar p 0 v) v p.fVars.toNat then 9 else 0
def restE (p : Pattern) : Int := bif testsE p.fVars p.fTests != 0 then testsE p.fVars p.fTests else unusedE p 0
def slotsE (t : Types) (p : Pattern) (i : Nat) : Int := bif anyN (slotBad t p) i p.fSlots.length then 6 else restE p
def patE (t : Types) (p : Pattern) : Int :=
  bif validS t != 0 then validS t else bif graphErr p.fGraph != 0 then graphErr p.fGraph else bif !typedB t p.fGraph then 13
  else bif decide (p.fVars < 0) || decide (p.fVars > 12) then 6 else bif decide ((p.fSlots.length : Int) > 10) || decide ((p.fTests.length : Int) > 10) then 3 else slotsE t p 0
structure FewP (p : Pattern) : Prop where
  graph : FewG p.fGraph
  slots : p.fSlots.length ≤ 15
  tests : p.fTests.length ≤ 15
theorem over_of {t : Types} {g : Graph} (ht : FewT t) (hv : validS t = 0) (hg : GoodG g) (hy : typedB t g = true) : Over t g where
  few := ht
  val := hv
  nodes x hx := by
    obtain ⟨j, hj, rfl⟩ := List.mem_iff_getElem.1 hx
    have e : rd g.fNodes (j : Int) = g.fNodes[j] := by simp [rd, List.getD, List.getElem?_eq_getElem hj]
    rw [← e]; exact ⟨(hg.kind j hj).1, typedB_node hy hj⟩
  len := by have := hg.nodes; omega
theorem occurs_eq {k : Nat} (hk : 200 ≤ k) {p : Pattern} (hs : p.fSlots.length ≤ 15) (v : Nat) : ref21_occurs k p (v : Int) = some (hasVar p 0 v) := by
  refine loop1_eq (fun i => hasVar p i v) p.fSlots.length (fun rec => ?_) (fun i hi rec ih => ?_) (k := k) (i := 0) (Nat.zero_le _) (by omega)
  · rw [ref21_occurs.b0, decide_eq_false (show ¬ (p.fSlots.length : Int) < (p.fSlots.length : Int) by omega), cond_false, hasVar, anyN_end]
  · unfold hasVar at ih ⊢
    rw [ref21_occurs.b0, decide_eq_true (show (i : Int) < (p.fSlots.length : Int) by omega), cond_true, gd ⟨by omega, by omega⟩, gd (inR_nat (n := i) (by omega)), ih, anyN_step hi]
    cases ((rd p.fSlots (i : Int)).fTerm.fVar == (v : Int)) <;> rfl
theorem unused_eq {k : Nat} (hk : 200 ≤ k) {p : Pattern} (hs : p.fSlots.length ≤ 15) (h0 : 0 ≤ p.fVars) (h1 : p.fVars ≤ 12) : loop1 k (ref21_Valid.b1 k p) 0 = some (unusedE p 0) := by
  refine loop1_eq (fun i => unusedE p i) p.fVars.toNat (fun rec => ?_) (fun i hi rec ih => ?_) (k := k) (i := 0) (Nat.zero_le _) (by omega)
  · rw [ref21_Valid.b1, decide_eq_false (by omega), cond_false, unusedE, anyN_end]; rfl
  · unfold unusedE at ih ⊢
    rw [ref21_Valid.b1, decide_eq_true (show (i : Int) < p.fVars by omega), cond_true, occurs_eq hk hs, Option.bind_some, gd (inR_nat (n := i) (by omega)), ih, anyN_step hi]
    cases hasVar p 0 i <;> rfl
theorem ref_valid_eq {k : Nat} (hk : 1000 ≤ k) {t : Types} {p : Pattern} (ht : FewT t) (hp : FewP p) : ref21_Valid k t p = some (patE t p) := by
  have hs := hp.slots
  obtain ⟨r, e, hr⟩ := ref04_Valid_out (k := k) (by omega) ht
  unfold ref21_Valid patE jn; dsimp only
  rw [e, Option.bind_some, hr]
  cases hv : (validS t != 0) with
  | true => rfl
  | false =>
    rw [cond_false, cond_false, ref05_Valid_eq (by omega) hp.graph, Option.bind_some]
    cases hg : (graphErr p.fGraph != 0) with
    | true => rfl
    | false =>
      have hg' : graphErr p.fGraph = 0 := by simpa using hg
      have good := graphErr_good hg'
      rw [cond_false, cond_false, ref17_Typed_eq (by omega) t good, Option.bind_some]
      cases hy : typedB t p.fGraph with
      | false => rfl
      | true =>
        have ov := over_of ht (by simpa using hv) good hy
        rw [Bool.not_true, cond_false, cond_false]
        by_cases c0 : p.fVars < 0
        · rw [decide_eq_true c0]; rfl
        · by_cases c1 : p.fVars > 12
          · rw [decide_eq_false c0, decide_eq_true c1]; rfl
          · rw [decide_eq_false c0, decide_eq_false c1, cond_false, cond_false, Bool.or_false, cond_false]
            by_cases c2 : (p.fSlots.length : Int) > 10
            · rw [decide_eq_true c2]; rfl
            · by_cases c3 : (p.fTests.length : Int) > 10
              · rw [decide_eq_false c2, decide_eq_true c3]; rfl
              · rw [decide_eq_false c2, decide_eq_false c3, cond_false, cond_false, Bool.or_false, cond_false]
                refine loop1_eq (fun i => slotsE t p i) p.fSlots.length (fun rec => ?_) (fun i hi rec ih => ?_) (k := k) (i := 0) (Nat.zero_le _) (by omega)
                · rw [ref21_Valid.b0, decide_eq_false (show ¬ (p.fSlots.length : Int) < (p.fSlots.length : Int) by omega), cond_false, ref_tests_eq (by omega), Option.bind_some, unused_eq (by omega) hs (by omega) (by omega), slotsE, anyN_end, restE]
                  cases (testsE p.fVars p.fTests != 0) <;> rfl
                · unfold slotsE at ih ⊢
                  rw [ref21_Valid.b0]; unfold jn; dsimp only
                  rw [decide_eq_true (show (i : Int) < (p.fSlots.length : Int) by omega), cond_true, gd ⟨by omega, by omega⟩, ref_attr_eq hk ov, Option.bind_some, gd (inR_nat (n := i) (by omega)), ih, anyN_step hi, slotBad]
                  unfold ref21_bounded jn; dsimp only
                  rw [show decide ((rd p.fSlots (i : Int)).fTerm.fVar < -1) = !decide ((rd p.fSlots (i : Int)).fTerm.fVar ≥ -1) by rw [Bool.eq_iff_iff]; simp <;> omega, show decide ((rd p.fSlots (i : Int)).fTerm.fVar ≥ p.fVars) = !decide ((rd p.fSlots (i : Int)).fTerm.fVar < p.fVars) by rw [Bool.eq_iff_iff]; simp]
                  cases (attrP t p.fGraph (rd p.fSlots (i : Int)).fNode (rd p.fSlots (i : Int)).fAttr).2 <;> cases decide ((rd p.fSlots (i : Int)).fTerm.fVar ≥ -1) <;> cases decide ((rd p.fSlots (i : Int)).fTerm.fVar < p.fVars) <;> cases decide ((rd p.fSlots (i : Int)).fTerm.fAdd ≥ -1000000) <;> cases decide ((rd p.fSlots (i : Int)).fTerm.fAdd ≤ 1000000) <;> rfl
structure Seen (p : Pattern) (s : List Bool) (i : Nat) : Prop where
  len : (s.length : Int) = p.fVars
  var : ∀ v : Nat, v < s.length → (rd s (v : Int) = true ↔ ∃ j, j < i ∧ (rd p.fSlots (j : Int)).fTerm.fVar = (v : Int))
theorem rd_setB {s : List Bool} {a : Nat} (ha : a < s.length) (v : Nat) : rd (s.set a true) (v : Int) = (if v = a then true else rd s (v : Int)) := by
  unfold rd
  rw [Int.toNat_natCast, List.getD_eq_getElem?_getD, List.getD_eq_getElem?_getD, List.getElem?_set]
  by_cases h : v = a
  · subst h; simp [ha]
  · rw [if_neg (fun e => h e.symm), if_neg h]
theorem Seen.put {p : Pattern} {s : List Bool} {i : Nat} (h : Seen p s i) (h0 : 0 ≤ (rd p.fSlots (i : Int)).fTerm.fVar) (h1 : (rd p.fSlots (i : Int)).fTerm.fVar < (s.length : Int)) : Seen p (s.set ((rd p.fSlots (i : Int)).fTerm.fVar).toNat true) (i + 1) := by
  refine ⟨by rw [List.length_set]; exact h.len, fun v hv => ?_⟩
  rw [List.length_set] at hv
  rw [rd_setB (by omega)]
  by_cases c : v = ((rd p.fSlots (i : Int)).fTerm.fVar).toNat
  · rw [if_pos c]
    exact ⟨fun _ => ⟨i, by omega, by omega⟩, fun _ => rfl⟩
  · rw [if_neg c, h.var v hv]
    constructor
    · rintro ⟨j, hj, e⟩; exact ⟨j, by omega, e⟩
    · rintro ⟨j, hj, e⟩
      rcases Nat.lt_succ_iff_lt_or_eq.1 hj with hj | rfl
      · exact ⟨j, hj, e⟩
      · exact absurd e (by omega)
theorem Seen.skip {p : Pattern} {s : List Bool} {i : Nat} (h : Seen p s i) (h0 : (rd p.fSlots (i : Int)).fTerm.fVar < 0) : Seen p s (i + 1) := by
  refine ⟨h.len, fun v hv => ?_⟩
  rw [h.var v hv]
  constructor
  · rintro ⟨j, hj, e⟩; exact ⟨j, by omega, e⟩
  · rintro ⟨j, hj, e⟩
    rcases Nat.lt_succ_iff_lt_or_eq.1 hj with hj | rfl
    · exact ⟨j, hj, e⟩
    · exact absurd e (by omega)
theorem Seen.all {p : Pattern} {s : List Bool} (h : Seen p s p.fSlots.length) : anyN (fun j => false == rd s (j : Int)) 0 s.length = anyN (fun v => !hasVar p 0 v) 0 p.fVars.toNat := by
  have hl := h.len
  rw [show p.fVars.toNat = s.length by omega]
  rw [Bool.eq_iff_iff, anyN_iff, anyN_iff]
  constructor
  · rintro ⟨j, _, hj, e⟩
    refine ⟨j, Nat.zero_le _, hj, ?_⟩
    have e1 : rd s (j : Int) = false := by simpa using e
    rw [Bool.not_eq_true']
    cases hh : hasVar p 0 j with
    | false => rfl
    | true =>
      obtain ⟨q, _, hq, hv⟩ := anyN_iff.1 hh
      have := (h.var j hj).2 ⟨q, hq, by simpa using hv⟩
      rw [e1] at this; cases this
  · rintro ⟨j, _, hj, e⟩
    refine ⟨j, Nat.zero_le _, hj, ?_⟩
    rw [Bool.not_eq_true'] at e
    cases hr : rd s (j : Int) with
    | false => rfl
    | true =>
      obtain ⟨q, hq, hv⟩ := (h.var j hj).1 hr
      have : hasVar p 0 j = true := anyN_iff.2 ⟨q, Nat.zero_le _, hq, by simpa using hv⟩
      rw [e] at this; cases this
theorem valid_eq {k : Nat} (hk : 1000 ≤ k) {t : Types} {p : Pattern} (ht : FewT t) (hp : FewP p) : attribute_Valid k t p = some (patE t p) := by
  have hs := hp.slots
  have h1 := hp.graph.nodes; have h2 := hp.graph.edges
  obtain ⟨r, e, hr⟩ := types_Valid_out (k := k) (by omega) ht
  unfold attribute_Valid patE jn; dsimp only
  rw [e, Option.bind_some, hr]
  cases hv : (validS t != 0) with
  | true => rfl
  | false =>
    rw [cond_false, cond_false, graph_Valid_eq (by omega) hp.graph, Option.bind_some]
    cases hg : (graphErr p.fGraph != 0) with
    | true => rfl
    | false =>
      have hg' : graphErr p.fGraph = 0 := by simpa using hg
      have good := graphErr_good hg'
      have h3 := ContainsFunc_int (k := k) p.fGraph.fNodes (fun x => attribute_Valid_1 k x t) (fun j => decide (rd p.fGraph.fNodes (j : Int) ≥ (t.fNodes.length : Int))) (by omega) (by omega) (fun j _ => rfl)
      have h4 := ContainsFunc_Edge (k := k) p.fGraph.fEdges (fun x => attribute_Valid_2 k x t) (fun j => decide ((rd p.fGraph.fEdges (j : Int)).fType ≥ (t.fEdges.length : Int))) (by omega) (by omega) (fun j _ => rfl)
      rw [cond_false, cond_false, h3, Option.bind_some, h4, Option.bind_some]
      cases hy : typedB t p.fGraph with
      | false =>
        unfold typedB at hy
        cases q1 : anyN (fun j => decide (rd p.fGraph.fNodes (j : Int) ≥ (t.fNodes.length : Int))) 0 p.fGraph.fNodes.length with
        | true => rfl
        | false =>
          rw [q1, Bool.not_false, Bool.true_and, Bool.not_eq_false'] at hy
          rw [hy]; rfl
      | true =>
        have ov := over_of ht (by simpa using hv) good hy
        unfold typedB at hy
        rw [Bool.and_eq_true, Bool.not_eq_true', Bool.not_eq_true'] at hy
        rw [hy.1, hy.2, cond_false, cond_false, within_eq, Option.bind_some, Bool.not_true, cond_false]
        by_cases c0 : p.fVars < 0
        · rw [decide_eq_true c0, decide_eq_false (show ¬ p.fVars ≥ 0 by omega)]; rfl
        · by_cases c1 : p.fVars > 12
          · rw [decide_eq_false c0, decide_eq_true c1, decide_eq_true (show p.fVars ≥ 0 by omega), decide_eq_false (show ¬ p.fVars ≤ 12 by omega)]; rfl
          · rw [decide_eq_false c0, decide_eq_false c1, decide_eq_true (show p.fVars ≥ 0 by omega), decide_eq_true (show p.fVars ≤ 12 by omega), Bool.and_true, Bool.not_true, cond_false, Bool.or_false, cond_false]
            by_cases c2 : (p.fSlots.length : Int) > 10
            · rw [decide_eq_true c2]; rfl
            · by_cases c3 : (p.fTests.length : Int) > 10
              · rw [decide_eq_false c2, decide_eq_true c3]; rfl
              · rw [decide_eq_false c2, decide_eq_false c3, cond_false, cond_false, Bool.or_false, cond_false, gd (show (0 : Int) ≤ p.fVars ∧ p.fVars ≤ (lim : Int) by unfold lim; omega)]
                refine Out.eq (loop2_out (S := List Bool) (P := fun _ i r => r = slotsE t p i) (I := fun s i => Seen p s i) p.fSlots.length (fun s hs' rec => ?_) (fun s i hi hs' rec ih => ?_) k 0 _ (Nat.zero_le _) (by omega) ⟨by rw [List.length_replicate]; omega, fun v hv => ⟨fun e => ?_, fun ⟨j, hj, _⟩ => by omega⟩⟩)
                · have hl := hs'.len
                  rw [attribute_Valid.b0, decide_eq_false (show ¬ (p.fSlots.length : Int) < (p.fSlots.length : Int) by omega), cond_false, tests_eq (by omega), Option.bind_some, Contains_bool (k := k) s false (by omega) (by omega), Option.bind_some, hs'.all, slotsE, anyN_end, restE]
                  unfold unusedE
                  cases (testsE p.fVars p.fTests != 0) <;> cases anyN (fun v => !hasVar p 0 v) 0 p.fVars.toNat <;> exact ⟨_, rfl, rfl⟩
                · have hl := hs'.len
                  have hi' : inR ((i : Int) + 1) := inR_nat (n := i) (by omega)
                  unfold slotsE at ih ⊢
                  rw [attribute_Valid.b0]; unfold jn; dsimp only
                  rw [decide_eq_true (show (i : Int) < (p.fSlots.length : Int) by omega), cond_true, gd ⟨by omega, by omega⟩, attr_eq hk ov, Option.bind_some, gd (inR_of (x := p.fVars - 1) (by omega)), within_eq, Option.bind_some, within_eq, Option.bind_some, anyN_step hi, slotBad]
                  rw [show decide ((rd p.fSlots (i : Int)).fTerm.fVar ≤ p.fVars - 1) = decide ((rd p.fSlots (i : Int)).fTerm.fVar < p.fVars) by rw [Bool.eq_iff_iff]; simp; omega]
                  cases hA : (attrP t p.fGraph (rd p.fSlots (i : Int)).fNode (rd p.fSlots (i : Int)).fAttr).2 with
                  | false => exact ⟨6, rfl, rfl⟩
                  | true =>
                    rw [Bool.not_true, cond_false, Bool.false_or]
                    cases hB : (decide ((rd p.fSlots (i : Int)).fTerm.fVar ≥ -1) && decide ((rd p.fSlots (i : Int)).fTerm.fVar < p.fVars)) with
                    | false => exact ⟨6, rfl, rfl⟩
                    | true =>
                      rw [Bool.not_true, cond_false, Bool.false_or]
                      rw [Bool.and_eq_true, decide_eq_true_eq, decide_eq_true_eq] at hB
                      cases hC : (decide ((rd p.fSlots (i : Int)).fTerm.fAdd ≥ -1000000) && decide ((rd p.fSlots (i : Int)).fTerm.fAdd ≤ 1000000)) with
                      | false => exact ⟨6, rfl, rfl⟩
                      | true =>
                        rw [Bool.not_true, cond_false, Bool.false_or]
                        by_cases d : (rd p.fSlots (i : Int)).fTerm.fVar ≥ 0
                        · rw [decide_eq_true d, cond_true, gd ⟨by omega, by omega⟩, gd hi']
                          exact ih _ (hs'.put (by omega) (by omega))
                        · rw [decide_eq_false d, cond_false, gd hi']
                          exact ih _ (hs'.skip (by omega))
                · rw [List.length_replicate] at hv
                  simp [rd, List.getD, List.getElem?_replicate, hv] at e
def firstF (e : Nat → Int) (z : Int × Int) : Nat → Nat → Int × Int
  | _, 0 => z
  | i, d + 1 => bif e i != 0 then ((i : Int), e i) else firstF e z (i + 1) d
def first (e : Nat → Int) (z : Int × Int) (i n : Nat) : Int × Int := firstF e z i (n - i)
def outB (l : List Attr) (vs : List Int) (i : Nat) : Bool := decide (rd vs (i : Int) < (rd l (i : Int)).fLow) || decide (rd vs (i : Int) > (rd l (i : Int)).fHigh)
def nodeV (t : Types) (kind : Int) (vs : List Int) : Int :=
  bif decide (kind ≥ (t.fNodes.length : Int)) then 6 else bif (rd t.fNodes kind).fAbstract then 13 else bif ((vs.length : Int) != ((attrsS t.fNodes t.fNodes.length kind).length : Int)) then 20
  else bif anyN (outB (attrsS t.fNodes t.fNodes.length kind) vs) 0 (attrsS t.fNodes t.fNodes.length kind).length then 6 else 0
theorem loop1_two {R : Type} {b b' : (Int → Option R) → Int → Option R} {Q : R → Prop} (n : Nat) (hend : ∀ rec rec', ∃ r, b rec (n : Int) = some r ∧ b' rec' (n : Int) = some r ∧ Q r)
    (hstep : ∀ i, i < n → ∀ rec rec' : Int → Option R, (∃ r, rec ((i : Int) + 1) = some r ∧ rec' ((i : Int) + 1) = some r ∧ Q r) → ∃ r, b rec (i : Int) = some r ∧ b' rec' (i : Int) = some r ∧ Q r) :
    ∀ k i : Nat, i ≤ n → n < k + i → ∃ r, loop1 k b (i : Int) = some r ∧ loop1 k b' (i : Int) = some r ∧ Q r
  | 0, i, h, hk => by omega
  | k + 1, i, h, hk => by
    rcases Nat.lt_or_ge i n with hl | hl
    · refine hstep i hl _ _ ?_
      have := loop1_two n hend hstep k (i + 1) hl (by omega)
      simpa using this
    · have : i = n := by omega
      subst this
      exact hend _ _
def Sm (x : Int) : Prop := -1000000 ≤ x ∧ x ≤ 1000000
structure SlotOk (p : Pattern) (h : Host) (m : Morphism) (i : Nat) : Prop where
  n0 : 0 ≤ (rd p.fSlots (i : Int)).fNode
  n1 : (rd p.fSlots (i : Int)).fNode < (m.fNodes.length : Int)
  m0 : 0 ≤ rd m.fNodes (rd p.fSlots (i : Int)).fNode
  m1 : rd m.fNodes (rd p.fSlots (i : Int)).fNode < (h.fValues.length : Int)
  a0 : 0 ≤ (rd p.fSlots (i : Int)).fAttr
  a1 : (rd p.fSlots (i : Int)).fAttr < ((rd h.fValues (rd m.fNodes (rd p.fSlots (i : Int)).fNode)).length : Int)
  v1 : (rd p.fSlots (i : Int)).fTerm.fVar < p.fVars
  add : Sm (rd p.fSlots (i : Int)).fTerm.fAdd
  val : Sm (rd (rd h.fValues (rd m.fNodes (rd p.fSlots (i : Int)).fNode)) (rd p.fSlots (i : Int)).fAttr)
structure SolveOk (p : Pattern) (h : Host) (m : Morphism) : Prop where
  v0 : 0 ≤ p.fVars
  v1 : p.fVars ≤ 12
  slots : p.fSlots.length ≤ 15
  tests : p.fTests.length ≤ 40
  slot : ∀ i, i < p.fSlots.length → SlotOk p h m i
  left : ∀ i, i < p.fTests.length → Sm (rd p.fTests (i : Int)).fLeft.fAdd
  right : ∀ i, i < p.fTests.length → Sm (rd p.fTests (i : Int)).fRight.fAdd
theorem few21_eq {k : Nat} (p : Pattern) : ref21_Few k p = some ((decide ((p.fGraph.fNodes.length : Int) ≤ 45) && decide ((p.fGraph.fEdges.length : Int) ≤ 90)) && (decide ((p.fSlots.length : Int) ≤ 15) && decide ((p.fTests.length : Int) ≤ 15))) := by
  unfold ref21_Few jn; dsimp only
  rw [ref05_Few_eq, Option.bind_some]
  cases (decide ((p.fGraph.fNodes.length : Int) ≤ 45) && decide ((p.fGraph.fEdges.length : Int) ≤ 90)) <;> cases decide ((p.fSlots.length : Int) ≤ 15) <;> rfl
structure FewH (h : Host) : Prop where
  graph : FewG h.fGraph
  len : h.fValues.length ≤ 45
  each : ∀ j : Nat, j < h.fValues.length → (rd h.fValues (j : Int)).length ≤ 12
structure Lit21 (t : Types) (p : Pattern) (h : Host) : Prop where
  pat : FewP p
  host : FewH h
  light : LightP t p.fGraph h.fGraph
theorem copied21 {k : Nat} {p : Pattern} (hp : FewP p) : ref21_Copied k p = some p := by
  have h1 := hp.graph.nodes; have h2 := hp.graph.edges; have h3 := hp.slots; have h4 := hp.tests
  unfold ref21_Copied ref05_Copied
  rw [gd (show p.fGraph.fNodes.length ≤ lim by unfold lim; omega), gd (show p.fGraph.fEdges.length ≤ lim by unfold lim; omega), Option.bind_some, gd (show p.fSlots.length ≤ lim by unfold lim; omega), gd (show p.fTests.length ≤ lim by unfold lim; omega)]
structure HostOk (t : Types) (h : Host) : Prop where
  val : validS t = 0
  graph : GoodG h.fGraph
  len : h.fValues.length = h.fGraph.fNodes.length
  node : ∀ j, j < h.fGraph.fNodes.length → nodeV t (rd h.fGraph.fNodes (j : Int)) (rd h.fValues (j : Int)) = 0
structure PatOk (t : Types) (p : Pattern) : Prop where
  val : validS t = 0
  graph : GoodG p.fGraph
  typed : typedB t p.fGraph = true
  v0 : 0 ≤ p.fVars
  v1 : p.fVars ≤ 12
  slots : p.fSlots.length ≤ 10
  tests : p.fTests.length ≤ 10
  slot : ∀ j, j < p.fSlots.length → slotBad t p j = false
  test : ∀ j, j < p.fTests.length → testE p.fVars (rd p.fTests (j : Int)) = 0
theorem pat_ok {t : Types} {p : Pattern} (e : patE t p = 0) : PatOk t p := by
  unfold patE at e
  cases h0 : (validS t != 0) with
  | true => rw [h0, cond_true] at e; rw [e] at h0; cases h0
  | false =>
    cases h1 : (graphErr p.fGraph != 0) with
    | true => rw [h0, h1, cond_false, cond_true] at e; rw [e] at h1; cases h1
    | false =>
      cases h2 : typedB t p.fGraph with
      | false => rw [h0, h1, h2] at e; cases e
      | true =>
        cases h3 : (decide (p.fVars < 0) || decide (p.fVars > 12)) with
        | true => rw [h0, h1, h2, h3] at e; cases e
        | false =>
          cases h4 : (decide ((p.fSlots.length : Int) > 10) || decide ((p.fTests.length : Int) > 10)) with
          | true => rw [h0, h1, h2, h3, h4] at e; cases e
          | false =>
            rw [h0, h1, h2, h3, h4] at e
            have e : slotsE t p 0 = 0 := e
            rw [Bool.or_eq_false_iff, decide_eq_false_iff_not, decide_eq_false_iff_not] at h3 h4
            unfold slotsE at e
            cases h5 : anyN (slotBad t p) 0 p.fSlots.length with
            | true => rw [h5] at e; cases e
            | false =>
              rw [h5, cond_false] at e
              unfold restE at e
              cases h6 : (testsE p.fVars p.fTests != 0) with
              | true => rw [h6, cond_true] at e; rw [e] at h6; cases h6
              | false =>
                have h7 : testsE p.fVars p.fTests = 0 := by simpa using h6
                unfold testsE at h7
                rw [decide_eq_false h3.1, decide_eq_false h3.2, Bool.or_false, cond_false, decide_eq_false (show ¬ (p.fTests.length : Int) > 40 by omega), cond_false] at h7
                exact ⟨by simpa using h0, graphErr_good (by simpa using h1), h2, by omega, by omega, by omega, by omega, fun j hj => anyN_false h5 j (Nat.zero_le _) hj, fun j hj => scan_zero h7 j (Nat.zero_le _) hj⟩
def sv (k : Nat) (p : Pattern) (h : Host) (m : Morphism) : List Int × Int := (attribute_solve k p h m).getD ([], 0)
def pick (k : Nat) (p : Pattern) (h : Host) (m : Morphism) : List Match := bif (sv k p h m).2 == 0 then [Match.mk m (sv k p h m).1] else []
end Go.Proofs.YtcgdfjpeboiioaaGreat
namespace Go.Abs.BF
abbrev A3 := Nat × Nat × Int
inductive Walk (L : List A3) : Nat → Nat → Nat → Int → Prop
  | nil (u : Nat) : Walk L 0 u u 0
  | cons {r u m v : Nat} {c w : Int} (h : (u, m, c) ∈ L) (k : Walk L r m v w) : Walk L (r + 1) u v (c + w)
variable {L : List A3}
theorem Walk.append {r s u m v : Nat} {w x : Int} (h : Walk L r u m w) (k : Walk L s m v x) : Walk L (r + s) u v (w + x) := by
  induction h with
  | nil u => simpa using k
  | @cons r u m' v' c w h _ ih =>
    have := Walk.cons h (ih k)
    rw [show r + 1 + s = r + s + 1 by omega, show c + w + x = c + (w + x) by omega]; exact this
inductive WalkV (L : List A3) : List Nat → Nat → Nat → Int → Prop
  | nil (u : Nat) : WalkV L [] u u 0
  | cons {p : List Nat} {u m v : Nat} {c w : Int} (h : (u, m, c) ∈ L) (k : WalkV L p m v w) : WalkV L (m :: p) u v (c + w)
theorem Walk.toV {r u v : Nat} {w : Int} (h : Walk L r u v w) : ∃ p, p.length = r ∧ WalkV L p u v w := by
  induction h with
  | nil u => exact ⟨[], rfl, .nil u⟩
  | @cons r u m v c w h _ ih =>
    obtain ⟨p, hp, k⟩ := ih
    exact ⟨m :: p, by simp [hp], .cons h k⟩
theorem WalkV.toW {p : List Nat} {u v : Nat} {w : Int} (h : WalkV L p u v w) : Walk L p.length u v w := by
  induction h with
  | nil u => exact .nil u
  | cons h _ ih => exact .cons h ih
theorem WalkV.split : ∀ {p q : List Nat} {u v m : Nat} {w : Int}, WalkV L (p ++ m :: q) u v w → ∃ x y, w = x + y ∧ Walk L (p.length + 1) u m x ∧ WalkV L q m v y
  | [], q, u, v, m, w, h => by
    cases h with
    | @cons _ _ _ _ c w h k => exact ⟨c + 0, w, by omega, .cons h (.nil m), k⟩
  | a :: p, q, u, v, m, w, h => by
    cases h with
    | @cons _ _ _ _ c w h k =>
      obtain ⟨x, y, e, h1, h2⟩ := WalkV.split k
      exact ⟨c + x, y, by omega, .cons h h1, h2⟩
theorem WalkV.mem_lt {N : Nat} (hN : ∀ a ∈ L, a.1 < N ∧ a.2.1 < N) {p : List Nat} {u v : Nat} {w : Int} (h : WalkV L p u v w) : ∀ x ∈ p, x < N := by
  induction h with
  | nil u => intro x hx; cases hx
  | cons h _ ih =>
    intro x hx
    rcases List.mem_cons.1 hx with rfl | hx
    · exact (hN _ h).2
    · exact ih x hx
theorem pigeon : ∀ (N : Nat) (x : Nat → Nat), (∀ t, t ≤ N → x t < N) → ∃ i j, i < j ∧ j ≤ N ∧ x i = x j
  | 0, x, h => absurd (h 0 (Nat.le_refl _)) (Nat.not_lt_zero _)
  | N + 1, x, h => by
    by_cases e : ∃ t, t ≤ N ∧ x t = x (N + 1)
    · obtain ⟨t, ht, e⟩ := e
      exact ⟨t, N + 1, by omega, Nat.le_refl _, e⟩
    · have ne : ∀ t, t ≤ N → x t ≠ x (N + 1) := fun t ht q => e ⟨t, ht, q⟩
      have hl := h (N + 1) (Nat.le_refl _)
      obtain ⟨i, j, hij, hj, q⟩ := pigeon N (fun t => if x t = N then x (N + 1) else x t) (fun t ht => by
        have h1 := h t (by omega)
        have h2 := ne t ht
        by_cases c : x t = N
        · simp only [c, if_true]; omega
        · simp only [c, if_false]; omega)
      have n1 := ne i (by omega); have n2 := ne j hj
      refine ⟨i, j, hij, by omega, ?_⟩
      by_cases c1 : x i = N
      · by_cases c2 : x j = N
        · rw [c1, c2]
        · rw [if_pos c1, if_neg c2] at q; exact absurd q.symm n2
      · by_cases c2 : x j = N
        · rw [if_neg c1, if_pos c2] at q; exact absurd q n1
        · rw [if_neg c1, if_neg c2] at q; exact q
theorem cut_at {p : List Nat} {i : Nat} (hi : i < p.length) : p = p.take i ++ p[i] :: p.drop (i + 1) := by
  rw [List.getElem_cons_drop, List.take_append_drop]
theorem Walk.cut {N : Nat} (hN : ∀ a ∈ L, a.1 < N ∧ a.2.1 < N) {r u v : Nat} {w : Int} (hu : u < N) (h : Walk L r u v w) (hr : N ≤ r) :
    ∃ b s m x y, 1 ≤ b ∧ b ≤ N ∧ s < r ∧ w = x + y ∧ Walk L b m m x ∧ Walk L s u v y := by
  obtain ⟨p, hp, k⟩ := h.toV
  have hm := k.mem_lt hN
  obtain ⟨i, j, hij, hj, e⟩ := pigeon N (fun t => (u :: p)[t]?.getD 0) (fun t ht => by
    have hl : t < (u :: p).length := by simp; omega
    simp only [List.getElem?_eq_getElem hl, Option.getD_some]
    have := List.getElem_mem hl
    rcases List.mem_cons.1 this with q | q
    · rw [q]; exact hu
    · exact hm _ q)
  have hj0 : j - 1 < p.length := by omega
  have ej : (u :: p)[j]?.getD 0 = p[j - 1] := by
    obtain ⟨j', rfl⟩ : ∃ j', j = j' + 1 := ⟨j - 1, by omega⟩
    simp [List.getElem?_eq_getElem (show j' < p.length by omega)]
  have kj := k
  rw [cut_at hj0] at kj
  obtain ⟨x, y, e1, h1, h2⟩ := kj.split
  have l1 : (p.take (j - 1)).length = j - 1 := by rw [List.length_take]; omega
  rw [l1] at h1
  rcases Nat.eq_zero_or_pos i with rfl | hi
  · have eu : u = p[j - 1] := by rw [← ej, ← e]; rfl
    refine ⟨j - 1 + 1, (p.drop (j - 1 + 1)).length, u, x, y, by omega, by omega, ?_, e1, ?_, ?_⟩
    · rw [List.length_drop]; omega
    · rw [← eu] at h1; exact h1
    · rw [← eu] at h2; exact h2.toW
  · have hi0 : i - 1 < (p.take (j - 1)).length := by omega
    have ei : (u :: p)[i]?.getD 0 = (p.take (j - 1))[i - 1] := by
      obtain ⟨i', rfl⟩ : ∃ i', i = i' + 1 := ⟨i - 1, by omega⟩
      simp [List.getElem?_eq_getElem (show i' < p.length by omega)]
    have emm : (p.take (j - 1))[i - 1] = p[j - 1] := by
      rw [← ei, ← ej]; exact e
    have ki := k
    rw [cut_at hj0, cut_at hi0, List.append_assoc, List.cons_append] at ki
    obtain ⟨x1, y1, e2, h3, h4⟩ := ki.split
    obtain ⟨x2, y2, e3, h5, h6⟩ := h4.split
    have l2 : ((p.take (j - 1)).take (i - 1)).length = i - 1 := by rw [List.length_take]; omega
    have l3 : ((p.take (j - 1)).drop (i - 1 + 1)).length = j - 1 - i := by rw [List.length_drop, l1]; omega
    rw [l2] at h3
    rw [l3] at h5
    rw [emm] at h3 h5
    have h7 := h3.append h6.toW
    refine ⟨j - 1 - i + 1, _, p[j - 1], x2, x1 + y2, by omega, by omega, ?_, by omega, h5, h7⟩
    rw [List.length_drop]; omega
theorem short {N : Nat} (hN : ∀ a ∈ L, a.1 < N ∧ a.2.1 < N) (hc : ∀ b m x, 1 ≤ b → b ≤ N → Walk L b m m x → 0 ≤ x) :
    ∀ (r u v : Nat) (w : Int), u < N → Walk L r u v w → ∃ s y, s < N ∧ y ≤ w ∧ Walk L s u v y := by
  intro r
  induction r using Nat.strongRecOn with
  | _ r ih =>
    intro u v w hu h
    rcases Nat.lt_or_ge r N with hl | hl
    · exact ⟨r, w, hl, Int.le_refl _, h⟩
    · obtain ⟨b, s, m, x, y, hb, hb2, hs, e, h1, h2⟩ := h.cut hN hu hl
      have := hc b m x hb hb2 h1
      obtain ⟨s', y', h3, h4, h5⟩ := ih s hs u v y hu h2
      exact ⟨s', y', h3, by omega, h5⟩
theorem stable_walk {d : Nat → Int} (hs : ∀ a ∈ L, d a.1 ≤ d a.2.1 + a.2.2) {r u v : Nat} {w : Int} (h : Walk L r u v w) : d u ≤ d v + w := by
  induction h with
  | nil u => omega
  | cons h _ ih => have := hs _ h; simp only at this; omega
theorem stable_closed {d : Nat → Int} (hs : ∀ a ∈ L, d a.1 ≤ d a.2.1 + a.2.2) {r u : Nat} {w : Int} (h : Walk L r u u w) : 0 ≤ w := by
  have := stable_walk hs h; omega
def step (d : Nat → Int) (a : A3) : Nat → Int := fun v => if v = a.1 ∧ d a.2.1 + a.2.2 < d a.1 then d a.2.1 + a.2.2 else d v
def sweep (d : Nat → Int) (l : List A3) : Nat → Int := l.foldl step d
theorem step_le (d : Nat → Int) (a : A3) (v : Nat) : step d a v ≤ d v := by
  unfold step; split
  · rename_i h; rw [h.1]; omega
  · omega
theorem step_arc (d : Nat → Int) (a : A3) : step d a a.1 ≤ d a.2.1 + a.2.2 := by
  unfold step; split
  · omega
  · rename_i h; omega
theorem sweep_le : ∀ (l : List A3) (d : Nat → Int) (v : Nat), sweep d l v ≤ d v
  | [], _, _ => Int.le_refl _
  | a :: l, d, v => Int.le_trans (sweep_le l (step d a) v) (step_le d a v)
theorem sweep_arc : ∀ (l : List A3) (d : Nat → Int), ∀ a ∈ l, sweep d l a.1 ≤ d a.2.1 + a.2.2
  | [], _, a, h => by cases h
  | b :: l, d, a, h => by
    rcases List.mem_cons.1 h with rfl | h
    · exact Int.le_trans (sweep_le l _ _) (step_arc d a)
    · have h1 : sweep (step d b) l a.1 ≤ step d b a.2.1 + a.2.2 := sweep_arc l (step d b) a h
      have := step_le d b a.2.1
      show sweep (step d b) l a.1 ≤ _
      omega
def Wit (L : List A3) (d : Nat → Int) : Prop := ∀ v, ∃ r t, Walk L r v t (d v)
theorem wit_zero : Wit L (fun _ => 0) := fun v => ⟨0, v, .nil v⟩
theorem wit_step {d : Nat → Int} (h : Wit L d) {a : A3} (ha : a ∈ L) : Wit L (step d a) := fun v => by
  unfold step; split
  · rename_i e
    obtain ⟨r, t, k⟩ := h a.2.1
    refine ⟨r + 1, t, ?_⟩
    rw [e.1, Int.add_comm]; exact .cons (by exact ha) k
  · exact h v
theorem wit_sweep : ∀ (l : List A3) {d : Nat → Int}, Wit L d → (∀ a ∈ l, a ∈ L) → Wit L (sweep d l)
  | [], _, h, _ => h
  | a :: l, _, h, hl => wit_sweep l (wit_step h (hl a (by simp))) fun b hb => hl b (by simp [hb])
def Upper (L : List A3) (r : Nat) (d : Nat → Int) : Prop := ∀ s v t w, s ≤ r → Walk L s v t w → d v ≤ w
theorem upper_zero : Upper L 0 (fun _ => 0) := fun s v t w hs h => by
  obtain rfl : s = 0 := by omega
  cases h; exact Int.le_refl _
theorem upper_sweep {r : Nat} {d : Nat → Int} (h : Upper L r d) : Upper L (r + 1) (sweep d L) := fun s v t w hs k => by
  cases k with
  | nil u => exact Int.le_trans (sweep_le L d v) (h 0 v v 0 (by omega) (.nil v))
  | @cons r' _ m _ c w ha k =>
    have h1 := sweep_arc L d _ ha
    have h2 := h r' m t w (by omega) k
    simp only at h1; omega
theorem done {N : Nat} (hN : ∀ a ∈ L, a.1 < N ∧ a.2.1 < N) (hc : ∀ b m x, 1 ≤ b → b ≤ N → Walk L b m m x → 0 ≤ x) {d : Nat → Int} (hw : Wit L d) (hu : Upper L (N - 1) d) :
    ∀ a ∈ L, d a.1 ≤ d a.2.1 + a.2.2 := fun a ha => by
  obtain ⟨r, t, k⟩ := hw a.2.1
  obtain ⟨s, y, h1, h2, h3⟩ := short hN hc (r + 1) a.1 t (a.2.2 + d a.2.1) (hN a ha).1 (.cons (by exact ha) k)
  have := hu s a.1 t y (by omega) h3
  omega
def far : Int := 1125899906842624
def ent1 (L : List A3) (t : Nat → Nat → Int) (u v : Nat) : Int := L.foldl (fun m a => if a.1 = u ∧ t a.2.1 v < far then min m (a.2.2 + t a.2.1 v) else m) far
def tab (L : List A3) : Nat → Nat → Nat → Int
  | 0 => fun u v => if u = v then 0 else far
  | k + 1 => ent1 L (tab L k)
theorem fold_le {t : Nat → Nat → Int} {u v : Nat} : ∀ (l : List A3) (m : Int), l.foldl (fun m a => if a.1 = u ∧ t a.2.1 v < far then min m (a.2.2 + t a.2.1 v) else m) m ≤ m
  | [], m => Int.le_refl _
  | a :: l, m => by
    rw [List.foldl_cons]
    refine Int.le_trans (fold_le l _) ?_
    split <;> omega
theorem fold_arc {t : Nat → Nat → Int} {u v : Nat} : ∀ (l : List A3) (m : Int) (a : A3), a ∈ l → a.1 = u → t a.2.1 v < far → l.foldl (fun m a => if a.1 = u ∧ t a.2.1 v < far then min m (a.2.2 + t a.2.1 v) else m) m ≤ a.2.2 + t a.2.1 v
  | b :: l, m, a, h, h1, h2 => by
    rw [List.foldl_cons]
    rcases List.mem_cons.1 h with rfl | h
    · refine Int.le_trans (fold_le l _) ?_
      rw [if_pos ⟨h1, h2⟩]; omega
    · exact fold_arc l _ a h h1 h2
theorem fold_or {t : Nat → Nat → Int} {u v : Nat} : ∀ (l : List A3) (m : Int), l.foldl (fun m a => if a.1 = u ∧ t a.2.1 v < far then min m (a.2.2 + t a.2.1 v) else m) m = m ∨
    ∃ a ∈ l, a.1 = u ∧ t a.2.1 v < far ∧ l.foldl (fun m a => if a.1 = u ∧ t a.2.1 v < far then min m (a.2.2 + t a.2.1 v) else m) m = a.2.2 + t a.2.1 v
  | [], m => .inl rfl
  | b :: l, m => by
    rw [List.foldl_cons]
    rcases fold_or l (if b.1 = u ∧ t b.2.1 v < far then min m (b.2.2 + t b.2.1 v) else m) with h | ⟨a, ha, h1, h2, h3⟩
    · rw [h]
      by_cases c : b.1 = u ∧ t b.2.1 v < far
      · rw [if_pos c]
        by_cases c2 : m ≤ b.2.2 + t b.2.1 v
        · exact .inl (by omega)
        · exact .inr ⟨b, by simp, c.1, c.2, by omega⟩
      · rw [if_neg c]; exact .inl rfl
    · exact .inr ⟨a, by simp [ha], h1, h2, h3⟩
theorem tab_walk : ∀ (k u v : Nat), tab L k u v < far → Walk L k u v (tab L k u v)
  | 0, u, v, h => by
    unfold tab at h ⊢
    by_cases e : u = v
    · subst e; rw [if_pos rfl]; exact .nil u
    · rw [if_neg e] at h; exact absurd h (by omega)
  | k + 1, u, v, h => by
    have hd : tab L (k + 1) u v = ent1 L (tab L k) u v := rfl
    rw [hd] at h ⊢
    rcases fold_or (t := tab L k) (u := u) (v := v) L far with e | ⟨a, ha, h1, h2, h3⟩
    · unfold ent1 at h; rw [e] at h; exact absurd h (by omega)
    · unfold ent1; rw [h3]
      subst h1
      exact .cons (by exact ha) (tab_walk k a.2.1 v h2)
theorem walk_bound {C : Int} (hC : ∀ a ∈ L, -C ≤ a.2.2 ∧ a.2.2 ≤ C) {r u v : Nat} {w : Int} (h : Walk L r u v w) : -(r * C) ≤ w ∧ w ≤ r * C := by
  induction h with
  | nil u => simp
  | @cons r u m v c w h _ ih =>
    have := hC _ h
    simp only at this
    rw [show ((r + 1 : Nat) : Int) * C = r * C + C by rw [Int.natCast_add, Int.add_mul]; simp]
    omega
theorem tab_le {C : Int} (hC : ∀ a ∈ L, -C ≤ a.2.2 ∧ a.2.2 ≤ C) : ∀ (k u v : Nat) (w : Int), (k : Int) * C < far → 0 ≤ C → Walk L k u v w → tab L k u v ≤ w
  | 0, u, v, w, _, _, h => by
    cases h
    unfold tab; rw [if_pos rfl]; omega
  | k + 1, u, v, w, hk, h0, h => by
    cases h with
    | @cons _ _ m _ c w ha h =>
      have e : ((k + 1 : Nat) : Int) * C = k * C + C := by rw [Int.natCast_add, Int.add_mul]; simp
      have hk' : (k : Int) * C < far := by omega
      have ih := tab_le hC k m v w hk' h0 h
      have b := walk_bound hC h
      have := fold_arc (t := tab L k) (u := u) (v := v) L far (u, m, c) ha rfl (by simp only; omega)
      show ent1 L (tab L k) u v ≤ _
      unfold ent1
      simp only at this ⊢
      omega
end Go.Abs.BF
namespace Go.Proofs.YtcgdfjpeboiioaaGreat
open Go Go.Abs
attribute [local irreducible] inR
theorem loop2_two {S R : Type} {b b' : (S → Int → Option R) → S → Int → Option R} {I : S → Nat → Prop} {Q : R → Prop} (n : Nat) (hend : ∀ s, I s n → ∀ rec rec', ∃ r, b rec s (n : Int) = some r ∧ b' rec' s (n : Int) = some r ∧ Q r)
    (hstep : ∀ s i, i < n → I s i → ∀ rec rec' : S → Int → Option R, (∀ s', I s' (i + 1) → ∃ r, rec s' ((i : Int) + 1) = some r ∧ rec' s' ((i : Int) + 1) = some r ∧ Q r) → ∃ r, b rec s (i : Int) = some r ∧ b' rec' s (i : Int) = some r ∧ Q r) :
    ∀ (k i : Nat) (s : S), i ≤ n → n < k + i → I s i → ∃ r, loop2 k b s (i : Int) = some r ∧ loop2 k b' s (i : Int) = some r ∧ Q r
  | 0, i, s, h, hk, _ => by omega
  | k + 1, i, s, h, hk, hi => by
    rcases Nat.lt_or_ge i n with hl | hl
    · refine hstep s i hl hi _ _ fun s' hI => ?_
      have := loop2_two n hend hstep k (i + 1) s' hl (by omega) hI
      simpa using this
    · have : i = n := by omega
      subst this
      exact hend s hi _ _
theorem loop1_succ {A R : Type} (k : Nat) (f : (A → Option R) → A → Option R) (a : A) : loop1 (k + 1) f a = f (loop1 k f) a := rfl
theorem inR_pred {n : Nat} (h : n ≤ 1000000) : inR ((n : Int) - 1) := by unfold inR; omega
theorem system_two {k : Nat} (hk : 1000 ≤ k) {t : Types} {p : Pattern} (ov : Over t p.fGraph) (h1 : p.fSlots.length ≤ 10) (h2 : p.fTests.length ≤ 10) :
    ∃ r, attribute_system k t p = some r ∧ ref21_System k t p = some r ∧ r.length ≤ 40 := by
  have lm : 5000 ≤ lim := by decide
  unfold attribute_system ref21_System slices_Clone_Test
  rw [if_pos (show p.fTests.length ≤ lim by omega), if_pos (show p.fTests.length ≤ lim by omega), Option.bind_some]
  refine loop2_two (Q := fun r : List Test => r.length ≤ 40) (I := fun s i => s.length ≤ 10 + 3 * i) p.fSlots.length (fun s hI rec rec' => ?_) (fun s i hi hI rec rec' ih => ?_) k 0 _ (Nat.zero_le _) (by omega) (by omega)
  · rw [attribute_system.b0, ref21_System.b0, decide_eq_false (show ¬ (p.fSlots.length : Int) < (p.fSlots.length : Int) by omega), cond_false, cond_false]
    exact ⟨_, rfl, rfl, by omega⟩
  · have gi : (0 : Int) ≤ (i : Int) ∧ (i : Int) < (p.fSlots.length : Int) := ⟨by omega, by omega⟩
    rw [attribute_system.b0, ref21_System.b0, decide_eq_true gi.2, cond_true, cond_true, gd gi, gd gi, attr_eq hk ov, ref_attr_eq hk ov, Option.bind_some, Option.bind_some]
    unfold attribute_system_1; dsimp only
    rw [Option.bind_some, Option.bind_some]
    generalize attrP t p.fGraph (rd p.fSlots (i : Int)).fNode (rd p.fSlots (i : Int)).fAttr = at_
    have l2 : ∀ a b : Test, [a, b].length = 2 := fun _ _ => rfl
    rw [gd (show _ ≤ lim by rw [l2]; omega), gd (show _ ≤ lim by rw [l2]; omega), gd (inR_pred (n := i) (by omega)), gd (inR_pred (n := i) (by omega))]
    have inner : ∀ j : Nat, j ≤ i → ∀ kk : Nat, j < kk → ∃ r, loop1 kk (attribute_system.b1 p s (i : Int) rec (Term.mk (-1) at_.1.fLow) (Term.mk (-1) at_.1.fHigh)) ((j : Int) - 1) = some r ∧ loop1 kk (ref21_System.b1 p s (i : Int) rec' at_) ((j : Int) - 1) = some r ∧ r.length ≤ 40 := by
      intro j
      induction j with
      | zero =>
        intro _ kk hkk
        obtain ⟨kk', rfl⟩ : ∃ q, kk = q + 1 := ⟨kk - 1, by omega⟩
        rw [loop1_succ, loop1_succ, attribute_system.b1, ref21_System.b1, decide_eq_false (by omega), cond_false, cond_false, gd (inR_nat (n := i) (by omega)), gd (inR_nat (n := i) (by omega))]
        exact ih _ (by rw [List.length_append, l2]; omega)
      | succ j ihj =>
        intro hj kk hkk
        obtain ⟨kk', rfl⟩ : ∃ q, kk = q + 1 := ⟨kk - 1, by omega⟩
        have e : (((j + 1 : Nat) : Int) - 1) = (j : Int) := by omega
        have gj : (0 : Int) ≤ (j : Int) ∧ (j : Int) < (p.fSlots.length : Int) := ⟨by omega, by omega⟩
        have rest := ihj (by omega) kk' (by omega)
        rw [e, loop1_succ, loop1_succ, attribute_system.b1, ref21_System.b1, decide_eq_true gj.1, cond_true, cond_true]
        unfold jn; dsimp only
        rw [gd gj, gd gj]
        have fnd : ∃ r, (if (s ++ [Test.mk 1 (Term.mk (-1) at_.1.fLow) (rd p.fSlots (i : Int)).fTerm, Test.mk 1 (rd p.fSlots (i : Int)).fTerm (Term.mk (-1) at_.1.fHigh)]).length + [Test.mk 2 (rd p.fSlots (j : Int)).fTerm (rd p.fSlots (i : Int)).fTerm].length ≤ lim then (if inR ((i : Int) + 1) then rec ((s ++ [Test.mk 1 (Term.mk (-1) at_.1.fLow) (rd p.fSlots (i : Int)).fTerm, Test.mk 1 (rd p.fSlots (i : Int)).fTerm (Term.mk (-1) at_.1.fHigh)]) ++ [Test.mk 2 (rd p.fSlots (j : Int)).fTerm (rd p.fSlots (i : Int)).fTerm]) ((i : Int) + 1) else none) else none) = some r ∧
            (if (s ++ [Test.mk 1 (Term.mk (-1) at_.1.fLow) (rd p.fSlots (i : Int)).fTerm, Test.mk 1 (rd p.fSlots (i : Int)).fTerm (Term.mk (-1) at_.1.fHigh)]).length + [Test.mk 2 (rd p.fSlots (j : Int)).fTerm (rd p.fSlots (i : Int)).fTerm].length ≤ lim then (if inR ((i : Int) + 1) then rec' ((s ++ [Test.mk 1 (Term.mk (-1) at_.1.fLow) (rd p.fSlots (i : Int)).fTerm, Test.mk 1 (rd p.fSlots (i : Int)).fTerm (Term.mk (-1) at_.1.fHigh)]) ++ [Test.mk 2 (rd p.fSlots (j : Int)).fTerm (rd p.fSlots (i : Int)).fTerm]) ((i : Int) + 1) else none) else none) = some r ∧ r.length ≤ 40 := by
          rw [gd (show _ ≤ lim by rw [List.length_append, l2, List.length_singleton]; omega), gd (show _ ≤ lim by rw [List.length_append, l2, List.length_singleton]; omega), gd (inR_nat (n := i) (by omega)), gd (inR_nat (n := i) (by omega))]
          exact ih _ (by rw [List.length_append, List.length_append, l2, List.length_singleton]; omega)
        cases c : ((rd p.fSlots (j : Int)).fNode == (rd p.fSlots (i : Int)).fNode) with
        | false => rw [cond_false, cond_false, cond_false, cond_false, gd (inR_pred (n := j) (by omega)), gd (inR_pred (n := j) (by omega))]; exact rest
        | true =>
          rw [cond_true, cond_true, gd gj]
          cases d : ((rd p.fSlots (j : Int)).fAttr == (rd p.fSlots (i : Int)).fAttr) with
          | false => rw [cond_false, cond_false, gd (inR_pred (n := j) (by omega)), gd (inR_pred (n := j) (by omega))]; exact rest
          | true => rw [cond_true, cond_true, gd gj]; exact fnd
    exact inner i (Nat.le_refl _) k (by omega)
def arc1 (l : List Test) (i : Nat) : Arc := Arc.mk (Use.mk (i : Int) 1) ((rd l (i : Int)).fLeft.fVar + 1) ((rd l (i : Int)).fRight.fVar + 1) ((rd l (i : Int)).fRight.fAdd - (rd l (i : Int)).fLeft.fAdd)
def arc2 (l : List Test) (i : Nat) : Arc := Arc.mk (Use.mk (i : Int) (-1)) ((rd l (i : Int)).fRight.fVar + 1) ((rd l (i : Int)).fLeft.fVar + 1) (0 - ((rd l (i : Int)).fRight.fAdd - (rd l (i : Int)).fLeft.fAdd))
def arcsAt (l : List Test) (i : Nat) : List Arc := bif (rd l (i : Int)).fKind == 2 then [arc1 l i, arc2 l i] else [arc1 l i]
def arcsN (l : List Test) (n : Nat) : List Arc := (List.range n).flatMap (arcsAt l)
def conv (a : Arc) : Arc3 := Arc3.mk a.fuse a.ffrom a.fto a.fmost
structure TestsOk (n : Int) (l : List Test) : Prop where
  n0 : 0 ≤ n
  n1 : n ≤ 12
  len : l.length ≤ 40
  lv : ∀ j : Nat, j < l.length → -1 ≤ (rd l (j : Int)).fLeft.fVar ∧ (rd l (j : Int)).fLeft.fVar < n
  rv : ∀ j : Nat, j < l.length → -1 ≤ (rd l (j : Int)).fRight.fVar ∧ (rd l (j : Int)).fRight.fVar < n
  la : ∀ j : Nat, j < l.length → Sm (rd l (j : Int)).fLeft.fAdd
  ra : ∀ j : Nat, j < l.length → Sm (rd l (j : Int)).fRight.fAdd
structure ArcOk (n : Int) (a : Arc) : Prop where
  f0 : 0 ≤ a.ffrom
  f1 : a.ffrom ≤ n
  t0 : 0 ≤ a.fto
  t1 : a.fto ≤ n
  m0 : -2000000 ≤ a.fmost
  m1 : a.fmost ≤ 2000000
theorem tests_ok {n : Int} {l : List Test} (h : testsE n l = 0) : TestsOk n l := by
  unfold testsE at h
  cases c1 : (decide (n < 0) || decide (n > 12)) with
  | true => rw [c1] at h; cases h
  | false =>
    cases c2 : decide ((l.length : Int) > 40) with
    | true => rw [c1, c2] at h; cases h
    | false =>
      rw [c1, c2] at h
      have h : scan (fun i => testE n (rd l (i : Int))) 0 l.length = 0 := h
      rw [Bool.or_eq_false_iff, decide_eq_false_iff_not, decide_eq_false_iff_not] at c1
      rw [decide_eq_false_iff_not] at c2
      have each : ∀ j : Nat, j < l.length → termB n (rd l (j : Int)).fLeft = true ∧ termB n (rd l (j : Int)).fRight = true := fun j hj => by
        have e := scan_zero h j (Nat.zero_le _) hj
        unfold testE at e
        cases c : ((rd l (j : Int)).fKind != 1 && (rd l (j : Int)).fKind != 2) with
        | true => rw [c] at e; cases e
        | false =>
          cases d : (termB n (rd l (j : Int)).fLeft && termB n (rd l (j : Int)).fRight) with
          | false => rw [c, d] at e; cases e
          | true => exact (Bool.and_eq_true _ _).mp d
      have term : ∀ x : Term, termB n x = true → (-1 ≤ x.fVar ∧ x.fVar < n) ∧ Sm x.fAdd := fun x hx => by
        unfold termB at hx
        rw [Bool.and_eq_true, Bool.and_eq_true, Bool.and_eq_true, decide_eq_true_eq, decide_eq_true_eq, decide_eq_true_eq, decide_eq_true_eq] at hx
        exact ⟨⟨by omega, by omega⟩, hx.2.2.1, hx.2.2.2⟩
      exact ⟨by omega, by omega, by omega, fun j hj => (term _ (each j hj).1).1, fun j hj => (term _ (each j hj).2).1, fun j hj => (term _ (each j hj).1).2, fun j hj => (term _ (each j hj).2).2⟩
theorem arcsN_succ (l : List Test) (n : Nat) : arcsN l (n + 1) = arcsN l n ++ arcsAt l n := by
  unfold arcsN; rw [List.range_succ, List.flatMap_append]; simp
theorem arcsAt_len (l : List Test) (i : Nat) : (arcsAt l i).length ≤ 2 := by unfold arcsAt; cases ((rd l (i : Int)).fKind == 2) <;> simp
theorem arcsN_len (l : List Test) : ∀ n, (arcsN l n).length ≤ 2 * n
  | 0 => by simp [arcsN]
  | n + 1 => by
    have h1 := arcsN_len l n; have h2 := arcsAt_len l n
    rw [arcsN_succ, List.length_append]; omega
theorem arcs_ok {n : Int} {l : List Test} (T : TestsOk n l) : ∀ a ∈ arcsN l l.length, ArcOk n a := fun a ha => by
  obtain ⟨i, hi, ha⟩ := List.mem_flatMap.1 ha
  have hi := List.mem_range.1 hi
  have a1 := T.lv i hi; have a2 := T.rv i hi; have a3 := T.la i hi; have a4 := T.ra i hi
  have b1 := a3.1; have b2 := a3.2; have b3 := a4.1; have b4 := a4.2
  have h : a = arc1 l i ∨ a = arc2 l i := by
    unfold arcsAt at ha
    cases c : ((rd l (i : Int)).fKind == 2) with
    | true => rw [c] at ha; simpa using ha
    | false => rw [c] at ha; exact .inl (by simpa using ha)
  rcases h with rfl | rfl
  · exact ⟨by show 0 ≤ _ + 1; omega, by show _ + 1 ≤ n; omega, by show 0 ≤ _ + 1; omega, by show _ + 1 ≤ n; omega, by show _ ≤ _ - _; omega, by show _ - _ ≤ (2000000 : Int); omega⟩
  · exact ⟨by show 0 ≤ _ + 1; omega, by show _ + 1 ≤ n; omega, by show 0 ≤ _ + 1; omega, by show _ + 1 ≤ n; omega, by show _ ≤ 0 - (_ - _); omega, by show 0 - (_ - _) ≤ (2000000 : Int); omega⟩
theorem inR_small {x : Int} (h : -1000000000000 ≤ x ∧ x ≤ 1000000000000) : inR x := by unfold inR; omega
theorem arcs_eq {k : Nat} (hk : 200 ≤ k) {n : Int} {l : List Test} (T : TestsOk n l) : difference_arcs k l = some (arcsN l l.length) := by
  have lm : 5000 ≤ lim := by decide
  have n0 := T.n0; have n1 := T.n1; have hl := T.len
  unfold difference_arcs
  refine (loop2_out (P := fun _ _ r => r = arcsN l l.length) (I := fun s i => s = arcsN l i) l.length (fun s hI rec => ?_) (fun s i hi hI rec ih => ?_) k 0 [] (Nat.zero_le _) (by omega) rfl).eq
  · subst hI
    rw [difference_arcs.b0, decide_eq_false (show ¬ (l.length : Int) < (l.length : Int) by omega), cond_false]; exact ⟨_, rfl, rfl⟩
  · subst hI
    have a1 := T.lv i hi; have a2 := T.rv i hi; have a3 := T.la i hi; have a4 := T.ra i hi
    have b1 := a3.1; have b2 := a3.2; have b3 := a4.1; have b4 := a4.2
    have ln := arcsN_len l i
    have gi : (0 : Int) ≤ (i : Int) ∧ (i : Int) < (l.length : Int) := ⟨by omega, by omega⟩
    rw [difference_arcs.b0, decide_eq_true gi.2, cond_true, gd gi, gd (inR_small ⟨by omega, by omega⟩), gd (inR_small ⟨by omega, by omega⟩), gd (inR_small ⟨by omega, by omega⟩), gd (show _ ≤ lim by rw [List.length_singleton]; omega)]
    have hs := arcsN_succ l i
    unfold arcsAt at hs
    cases c : ((rd l (i : Int)).fKind == 2) with
    | true =>
      rw [c, cond_true] at hs
      rw [cond_true, gd (inR_small ⟨by omega, by omega⟩), gd (show _ ≤ lim by rw [List.length_append, List.length_singleton, List.length_singleton]; omega), gd (inR_nat (n := i) (by omega))]
      exact ih _ (by rw [hs, List.append_assoc]; rfl)
    | false =>
      rw [c, cond_false] at hs
      rw [cond_false, gd (inR_nat (n := i) (by omega))]
      exact ih _ hs.symm
theorem ref_arcs_eq {k : Nat} (hk : 200 ≤ k) {n : Int} {l : List Test} (T : TestsOk n l) : ref03_arcs k l = some ((arcsN l l.length).map conv) := by
  have lm : 5000 ≤ lim := by decide
  have n0 := T.n0; have n1 := T.n1; have hl := T.len
  unfold ref03_arcs
  refine (loop2_out (P := fun _ _ r => r = (arcsN l l.length).map conv) (I := fun s i => s = (arcsN l i).map conv) l.length (fun s hI rec => ?_) (fun s i hi hI rec ih => ?_) k 0 [] (Nat.zero_le _) (by omega) rfl).eq
  · subst hI
    rw [ref03_arcs.b0, decide_eq_false (show ¬ (l.length : Int) < (l.length : Int) by omega), cond_false]; exact ⟨_, rfl, rfl⟩
  · subst hI
    have a1 := T.lv i hi; have a2 := T.rv i hi; have a3 := T.la i hi; have a4 := T.ra i hi
    have b1 := a3.1; have b2 := a3.2; have b3 := a4.1; have b4 := a4.2
    have ln := arcsN_len l i
    have gi : (0 : Int) ≤ (i : Int) ∧ (i : Int) < (l.length : Int) := ⟨by omega, by omega⟩
    rw [ref03_arcs.b0, decide_eq_true gi.2, cond_true, gd gi, gd (inR_small ⟨by omega, by omega⟩), gd gi, gd (inR_small ⟨by omega, by omega⟩), gd gi, gd gi, gd (inR_small ⟨by omega, by omega⟩), gd (show _ ≤ lim by rw [List.length_map, List.length_singleton]; omega), gd gi]
    have hs := arcsN_succ l i
    unfold arcsAt at hs
    cases c : ((rd l (i : Int)).fKind == 2) with
    | true =>
      rw [c, cond_true] at hs
      rw [cond_true, gd (inR_small ⟨by omega, by omega⟩), gd (show _ ≤ lim by rw [List.length_append, List.length_map, List.length_singleton, List.length_singleton]; omega), gd (inR_nat (n := i) (by omega))]
      exact ih _ (by rw [hs, List.map_append, List.append_assoc]; rfl)
    | false =>
      rw [c, cond_false] at hs
      rw [cond_false, gd (inR_nat (n := i) (by omega))]
      exact ih _ (by rw [hs, List.map_append]; rfl)
end Go.Proofs.YtcgdfjpeboiioaaGreat
namespace Go.Proofs.YtcgdfjpeboiioaaGreat
open Go Go.Abs Go.Abs.BF
attribute [local irreducible] inR
theorem loop3_out {S T R : Type} {b : (S → T → Int → Option R) → S → T → Int → Option R} {P : R → Prop} {I : S → T → Nat → Prop} (n : Nat) (hend : ∀ s u, I s u n → ∀ rec, Out (b rec s u (n : Int)) P)
    (hstep : ∀ s u i, i < n → I s u i → ∀ rec : S → T → Int → Option R, (∀ s' u', I s' u' (i + 1) → Out (rec s' u' ((i : Int) + 1)) P) → Out (b rec s u (i : Int)) P) :
    ∀ (k i : Nat) (s : S) (u : T), i ≤ n → n < k + i → I s u i → Out (loop3 k b s u (i : Int)) P
  | 0, i, s, u, h, hk, _ => by omega
  | k + 1, i, s, u, h, hk, hi => by
    rcases Nat.lt_or_ge i n with hl | hl
    · refine hstep s u i hl hi _ fun s' u' hI => ?_
      have := loop3_out n hend hstep k (i + 1) s' u' hl (by omega) hI
      simpa using this
    · have : i = n := by omega
      subst this
      exact hend s u hi _
def a3 (a : Arc) : A3 := (a.ffrom.toNat, a.fto.toNat, a.fmost)
structure ArcsOk (n : Nat) (A : List Arc) : Prop where
  n1 : n ≤ 12
  len : A.length ≤ 80
  arc : ∀ a ∈ A, ArcOk (n : Int) a
theorem ArcsOk.lt {n : Nat} {A : List Arc} (h : ArcsOk n A) : ∀ a ∈ A.map a3, a.1 < n + 1 ∧ a.2.1 < n + 1 := fun a ha => by
  obtain ⟨b, hb, rfl⟩ := List.mem_map.1 ha
  have o := h.arc b hb
  have := o.f0; have := o.f1; have := o.t0; have := o.t1
  exact ⟨by show b.ffrom.toNat < _; omega, by show b.fto.toNat < _; omega⟩
theorem ArcsOk.most {n : Nat} {A : List Arc} (h : ArcsOk n A) : ∀ a ∈ A.map a3, -2000000 ≤ a.2.2 ∧ a.2.2 ≤ 2000000 := fun a ha => by
  obtain ⟨b, hb, rfl⟩ := List.mem_map.1 ha
  exact ⟨(h.arc b hb).m0, (h.arc b hb).m1⟩
theorem ArcsOk.at {n : Nat} {A : List Arc} (h : ArcsOk n A) {i : Nat} (hi : i < A.length) : ArcOk (n : Int) (rd A (i : Int)) := h.arc _ (rd_mem (by omega) (by omega))
def Neg (L : List A3) (N : Nat) : Prop := ∃ b m x, 1 ≤ b ∧ b ≤ N ∧ Walk L b m m x ∧ x < 0
def fn (x : List Int) : Nat → Int := fun v => rd x (v : Int)
theorem rd_setI {x : List Int} {f : Nat} (hf : f < x.length) (y : Int) (v : Nat) : rd (x.set f y) (v : Int) = if v = f then y else rd x (v : Int) := by
  by_cases e : v = f
  · subst e; rw [if_pos rfl]; simp [rd, List.getD, List.getElem?_set, hf]
  · rw [if_neg e]; simp [rd, List.getD, List.getElem?_set, Ne.symm e]
theorem take_map_snoc {A : List Arc} {i : Nat} (hi : i < A.length) : (A.take (i + 1)).map a3 = (A.take i).map a3 ++ [a3 (rd A (i : Int))] := by
  rw [take_rdA hi, List.map_append]; rfl
structure Sw (n : Nat) (A : List Arc) (x0 : List Int) (C : Int) (x : List Int) (b : Bool) (i : Nat) : Prop where
  len : x.length = n + 1
  fn : fn x = sweep (fn x0) ((A.take i).map a3)
  lo : ∀ v : Nat, -(C + 2000000 * i) ≤ rd x (v : Int)
  hi : ∀ v : Nat, rd x (v : Int) ≤ 0
  yes : b = true → ∃ a ∈ A.map a3, ¬ Go.Proofs.YtcgdfjpeboiioaaGreat.fn x0 a.1 ≤ Go.Proofs.YtcgdfjpeboiioaaGreat.fn x0 a.2.1 + a.2.2
  no : b = false → x = x0 ∧ ∀ a ∈ (A.take i).map a3, Go.Proofs.YtcgdfjpeboiioaaGreat.fn x0 a.1 ≤ Go.Proofs.YtcgdfjpeboiioaaGreat.fn x0 a.2.1 + a.2.2
theorem toNat_rd {x : List Int} {a : Int} (h : 0 ≤ a) : rd x ((a.toNat : Nat) : Int) = rd x a := by rw [show ((a.toNat : Nat) : Int) = a by omega]
theorem sw_step {n : Nat} {A : List Arc} (ok : ArcsOk n A) {x0 : List Int} {C : Int} (hC : 0 ≤ C) {x : List Int} {b : Bool} {i : Nat} (hi : i < A.length) (S : Sw n A x0 C x b i) :
    (rd x (rd A (i : Int)).fto + (rd A (i : Int)).fmost < rd x (rd A (i : Int)).ffrom → Sw n A x0 C (x.set (rd A (i : Int)).ffrom.toNat (rd x (rd A (i : Int)).fto + (rd A (i : Int)).fmost)) true (i + 1)) ∧
    (¬ rd x (rd A (i : Int)).fto + (rd A (i : Int)).fmost < rd x (rd A (i : Int)).ffrom → Sw n A x0 C x b (i + 1)) := by
  have o := ok.at hi
  have f0 := o.f0; have f1 := o.f1; have t0 := o.t0; have t1 := o.t1; have m0 := o.m0; have m1 := o.m1
  have hl := S.len
  have mem : a3 (rd A (i : Int)) ∈ A.map a3 := List.mem_map.2 ⟨_, rd_mem (by omega) (by omega), rfl⟩
  have ef : fn x (a3 (rd A (i : Int))).1 = rd x (rd A (i : Int)).ffrom := toNat_rd f0
  have et : fn x (a3 (rd A (i : Int))).2.1 = rd x (rd A (i : Int)).fto := toNat_rd t0
  have em : (a3 (rd A (i : Int))).2.2 = (rd A (i : Int)).fmost := rfl
  have snoc : sweep (fn x0) ((A.take (i + 1)).map a3) = BF.step (fn x) (a3 (rd A (i : Int))) := by
    rw [take_map_snoc hi, S.fn]; unfold sweep; rw [List.foldl_append]; rfl
  have cast : (2000000 * ((i + 1 : Nat) : Int)) = 2000000 * i + 2000000 := by omega
  constructor
  · intro c
    refine ⟨by rw [List.length_set]; exact hl, ?_, fun v => ?_, fun v => ?_, fun _ => ?_, fun h => by cases h⟩
    · rw [snoc]
      funext v
      show rd (x.set _ _) (v : Int) = _
      rw [rd_setI (by omega)]
      unfold BF.step
      rw [ef, et, em]
      have e1 : (a3 (rd A (i : Int))).1 = (rd A (i : Int)).ffrom.toNat := rfl
      rw [e1]
      by_cases e : v = (rd A (i : Int)).ffrom.toNat
      · rw [if_pos e, if_pos ⟨e, c⟩]
      · rw [if_neg e, if_neg (fun h => e h.1)]; rfl
    · rw [rd_setI (by omega), cast]
      have h1 := S.lo v; have h2 := S.lo (rd A (i : Int)).fto.toNat
      rw [toNat_rd t0] at h2
      split <;> omega
    · rw [rd_setI (by omega)]
      have h1 := S.hi v; have h2 := S.hi (rd A (i : Int)).ffrom.toNat
      rw [toNat_rd f0] at h2
      split <;> omega
    · cases b with
      | true => exact S.yes rfl
      | false =>
        obtain ⟨rfl, _⟩ := S.no rfl
        exact ⟨_, mem, by rw [ef, et, em]; omega⟩
  · intro c
    refine ⟨hl, ?_, fun v => by rw [cast]; have := S.lo v; omega, S.hi, S.yes, fun h => ?_⟩
    · rw [snoc]
      funext v
      unfold BF.step
      rw [ef, et, em, if_neg (fun h => c h.2)]
    · obtain ⟨e, h'⟩ := S.no h
      refine ⟨e, fun a ha => ?_⟩
      rw [take_map_snoc hi] at ha
      rcases List.mem_append.1 ha with ha | ha
      · exact h' a ha
      · rw [List.mem_singleton] at ha
        subst ha; subst e
        rw [ef, et, em]; omega
structure Rnd (n : Nat) (A : List Arc) (x : List Int) (r : Nat) : Prop where
  len : x.length = n + 1
  wit : Wit (A.map a3) (fn x)
  up : Upper (A.map a3) r (fn x)
  lo : ∀ v : Nat, -(160000000 * (r : Int)) ≤ rd x (v : Int)
  hi : ∀ v : Nat, rd x (v : Int) ≤ 0
  neg : n + 1 ≤ r → Neg (A.map a3) (n + 1)
theorem not_neg {L : List A3} {N : Nat} (h : ¬ Neg L N) : ∀ b m x, 1 ≤ b → b ≤ N → Walk L b m m x → 0 ≤ x := fun b m x h1 h2 h3 => by
  rcases Int.lt_or_le x 0 with c | c
  · exact absurd ⟨b, m, x, h1, h2, h3, c⟩ h
  · exact c
theorem rnd_next {n : Nat} {A : List Arc} (ok : ArcsOk n A) {x0 x : List Int} {r : Nat} (R : Rnd n A x0 r) (S : Sw n A x0 (160000000 * (r : Int)) x true A.length) : Rnd n A x (r + 1) := by
  have hl := ok.len
  have e : fn x = sweep (fn x0) (A.map a3) := by rw [S.fn, List.take_length]
  refine ⟨S.len, ?_, ?_, fun v => ?_, S.hi, fun h => ?_⟩
  · rw [e]; exact wit_sweep _ R.wit fun a ha => ha
  · rw [e]; exact upper_sweep R.up
  · have := S.lo v; omega
  · rcases Nat.lt_or_ge r (n + 1) with c | c
    · obtain rfl : r = n := by omega
      obtain ⟨a, ha, hn⟩ := S.yes rfl
      by_cases g : Neg (A.map a3) (r + 1)
      · exact g
      · exact absurd (done ok.lt (not_neg g) R.wit (by simpa using R.up) a ha) hn
    · exact R.neg c
theorem distances_out {k : Nat} (hk : 200 ≤ k) {n : Nat} {A : List Arc} (ok : ArcsOk n A) :
    Out (difference_distances k (n : Int) A) (fun r => (r.2 = true → ∀ b m x, Walk (A.map a3) b m m x → 0 ≤ x) ∧ (r.2 = false → Neg (A.map a3) (n + 1))) := by
  have n1 := ok.n1; have al := ok.len
  have lm : 5000 ≤ lim := by decide
  unfold difference_distances
  rw [gd (inR_nat (n := n) (by omega)), gd (show (0 : Int) ≤ (n : Int) + 1 ∧ (n : Int) + 1 ≤ (lim : Int) from ⟨by omega, by omega⟩), gd (inR_small ⟨by omega, by omega⟩)]
  have z : ∀ v : Nat, rd (List.replicate ((n : Int) + 1).toNat (0 : Int)) (v : Int) = 0 := fun v => by
    simp only [rd, List.getD, List.getElem?_replicate]
    split <;> rfl
  have start : Rnd n A (List.replicate ((n : Int) + 1).toNat (0 : Int)) 0 := by
    have e : fn (List.replicate ((n : Int) + 1).toNat (0 : Int)) = fun _ => 0 := funext z
    exact ⟨by rw [List.length_replicate]; omega, by rw [e]; exact wit_zero, by rw [e]; exact upper_zero, fun v => by rw [z v]; decide, fun v => by rw [z v]; decide, fun h => by omega⟩
  refine loop2_out (P := fun _ _ (r : List Int × Bool) => (r.2 = true → ∀ b m x, Walk (A.map a3) b m m x → 0 ≤ x) ∧ (r.2 = false → Neg (A.map a3) (n + 1))) (I := fun x r => Rnd n A x r) (n + 2) (fun x R rec => ?_) (fun x r hr R rec ih => ?_) k 0 _ (Nat.zero_le _) (by omega) start
  · rw [difference_distances.b0, decide_eq_false (by omega), cond_false]
    exact ⟨_, rfl, fun h => (by cases h), fun _ => R.neg (by omega)⟩
  · rw [difference_distances.b0, decide_eq_true (by omega), cond_true]
    refine loop3_out (P := fun (r : List Int × Bool) => (r.2 = true → ∀ b m x, Walk (A.map a3) b m m x → 0 ≤ x) ∧ (r.2 = false → Neg (A.map a3) (n + 1))) (I := fun y b i => Sw n A x (160000000 * (r : Int)) y b i) A.length (fun y b S rec1 => ?_) (fun y b i hi S rec1 ih1 => ?_) k 0 x false (Nat.zero_le _) (by omega) ?_
    · rw [difference_distances.b1, decide_eq_false (show ¬ (A.length : Int) < (A.length : Int) by omega), cond_false]
      cases b with
      | false =>
        obtain ⟨rfl, hs⟩ := S.no rfl
        rw [List.take_length] at hs
        exact ⟨_, rfl, fun _ b m w h => stable_closed hs h, fun h => (by cases h)⟩
      | true =>
        rw [Bool.not_true, cond_false, gd (inR_nat (n := r) (by omega))]
        exact ih _ (rnd_next ok R S)
    · have o := ok.at hi
      have f0 := o.f0; have f1 := o.f1; have t0 := o.t0; have t1 := o.t1; have m0 := o.m0; have m1 := o.m1
      have yl := S.len
      have l1 := S.lo (rd A (i : Int)).fto.toNat; have l2 := S.hi (rd A (i : Int)).fto.toNat
      rw [toNat_rd t0] at l1 l2
      have gf : (0 : Int) ≤ (rd A (i : Int)).ffrom ∧ (rd A (i : Int)).ffrom < (y.length : Int) := ⟨f0, by omega⟩
      obtain ⟨s1, s2⟩ := sw_step ok (by omega) hi S
      rw [difference_distances.b1, decide_eq_true (show (i : Int) < (A.length : Int) by omega), cond_true, gd ⟨by omega, by omega⟩, gd ⟨t0, by omega⟩, gd (inR_small ⟨by omega, by omega⟩), gd gf]
      by_cases c : rd y (rd A (i : Int)).fto + (rd A (i : Int)).fmost < rd y (rd A (i : Int)).ffrom
      · rw [decide_eq_true c, cond_true, gd gf, gd (inR_nat (n := i) (by omega))]
        exact ih1 _ _ (s1 c)
      · rw [decide_eq_false c, cond_false, gd (inR_nat (n := i) (by omega))]
        exact ih1 _ _ (s2 c)
    · exact ⟨R.len, rfl, fun v => by have := R.lo v; omega, R.hi, fun h => (by cases h), fun _ => ⟨rfl, fun a ha => by simp at ha⟩⟩
end Go.Proofs.YtcgdfjpeboiioaaGreat
namespace Go.Proofs.YtcgdfjpeboiioaaGreat
open Go Go.Abs Go.Abs.BF
theorem rep0 (k : Nat) : slices_Repeat_int (k + 20) [far] (((0 : Nat) : Int) + 1) = some (List.replicate (0 + 1) far) := by kernel_rfl
theorem rep1 (k : Nat) : slices_Repeat_int (k + 20) [far] (((1 : Nat) : Int) + 1) = some (List.replicate (1 + 1) far) := by kernel_rfl
theorem rep2 (k : Nat) : slices_Repeat_int (k + 20) [far] (((2 : Nat) : Int) + 1) = some (List.replicate (2 + 1) far) := by kernel_rfl
theorem rep3 (k : Nat) : slices_Repeat_int (k + 20) [far] (((3 : Nat) : Int) + 1) = some (List.replicate (3 + 1) far) := by kernel_rfl
theorem rep4 (k : Nat) : slices_Repeat_int (k + 20) [far] (((4 : Nat) : Int) + 1) = some (List.replicate (4 + 1) far) := by kernel_rfl
theorem rep5 (k : Nat) : slices_Repeat_int (k + 20) [far] (((5 : Nat) : Int) + 1) = some (List.replicate (5 + 1) far) := by kernel_rfl
theorem rep6 (k : Nat) : slices_Repeat_int (k + 20) [far] (((6 : Nat) : Int) + 1) = some (List.replicate (6 + 1) far) := by kernel_rfl
theorem rep7 (k : Nat) : slices_Repeat_int (k + 20) [far] (((7 : Nat) : Int) + 1) = some (List.replicate (7 + 1) far) := by kernel_rfl
theorem rep8 (k : Nat) : slices_Repeat_int (k + 20) [far] (((8 : Nat) : Int) + 1) = some (List.replicate (8 + 1) far) := by kernel_rfl
theorem rep9 (k : Nat) : slices_Repeat_int (k + 20) [far] (((9 : Nat) : Int) + 1) = some (List.replicate (9 + 1) far) := by kernel_rfl
theorem rep10 (k : Nat) : slices_Repeat_int (k + 20) [far] (((10 : Nat) : Int) + 1) = some (List.replicate (10 + 1) far) := by kernel_rfl
theorem rep11 (k : Nat) : slices_Repeat_int (k + 20) [far] (((11 : Nat) : Int) + 1) = some (List.replicate (11 + 1) far) := by kernel_rfl
theorem rep12 (k : Nat) : slices_Repeat_int (k + 20) [far] (((12 : Nat) : Int) + 1) = some (List.replicate (12 + 1) far) := by kernel_rfl
theorem repeat_eq {k : Nat} (hk : 20 ≤ k) {n : Nat} (hn : n ≤ 12) : slices_Repeat_int k [far] ((n : Int) + 1) = some (List.replicate (n + 1) far) := by
  obtain ⟨k', rfl⟩ : ∃ q, k = q + 20 := ⟨k - 20, by omega⟩
  match n, hn with
  | 0, _ => exact rep0 k'
  | 1, _ => exact rep1 k'
  | 2, _ => exact rep2 k'
  | 3, _ => exact rep3 k'
  | 4, _ => exact rep4 k'
  | 5, _ => exact rep5 k'
  | 6, _ => exact rep6 k'
  | 7, _ => exact rep7 k'
  | 8, _ => exact rep8 k'
  | 9, _ => exact rep9 k'
  | 10, _ => exact rep10 k'
  | 11, _ => exact rep11 k'
  | 12, _ => exact rep12 k'
  | n + 13, h => omega
attribute [local irreducible] inR
structure IsTab (N : Nat) (f : Nat → Nat → Int) (T : List (List Int)) : Prop where
  len : T.length = N
  row : ∀ u : Nat, u < N → (rd T (u : Int)).length = N
  ent : ∀ u v : Nat, u < N → v < N → rd (rd T (u : Int)) (v : Int) = f u v
theorem rd_get1 {α : Type} [Inhabited α] {l : List α} {i : Nat} (h : i < l.length) : rd l (i : Int) = l[i] := by simp [rd, List.getD, List.getElem?_eq_getElem h]
theorem rd_ext {α : Type} [Inhabited α] {l m : List α} (hl : l.length = m.length) (h : ∀ i : Nat, i < l.length → rd l (i : Int) = rd m (i : Int)) : l = m :=
  List.ext_getElem hl fun i h1 h2 => by rw [← rd_get1 h1, ← rd_get1 h2]; exact h i h1
theorem IsTab.uniq {N : Nat} {f : Nat → Nat → Int} {T U : List (List Int)} (h : IsTab N f T) (g : IsTab N f U) : T = U :=
  rd_ext (by rw [h.len, g.len]) fun u hu => by
    have hu : u < N := by rw [← h.len]; exact hu
    exact rd_ext (by rw [h.row u hu, g.row u hu]) fun v hv => by
      have hv : v < N := by rw [← h.row u hu]; exact hv
      rw [h.ent u v hu hv, g.ent u v hu hv]
theorem IsTab.congr {N : Nat} {f g : Nat → Nat → Int} {T : List (List Int)} (h : IsTab N f T) (e : ∀ u v, u < N → v < N → f u v = g u v) : IsTab N g T :=
  ⟨h.len, h.row, fun u v hu hv => by rw [h.ent u v hu hv, e u v hu hv]⟩
theorem rd_range {α : Type} [Inhabited α] (f : Nat → α) {n i : Nat} (h : i < n) : rd ((List.range n).map f) (i : Int) = f i := by
  rw [rd_get1 (by simpa using h)]; simp
theorem tab_range {N : Nat} {f : Nat → Nat → Int} : IsTab N f ((List.range N).map fun u => (List.range N).map fun v => f u v) :=
  ⟨by simp, fun u hu => by rw [rd_range _ hu]; simp, fun u v hu hv => by rw [rd_range _ hu, rd_range _ hv]⟩
theorem range_snoc {α : Type} (f : Nat → α) (n : Nat) : (List.range (n + 1)).map f = (List.range n).map f ++ [f n] := by rw [List.range_succ, List.map_append]; rfl
def sq (a z : Int) (u v : Nat) : Int := if u = v then z else a
theorem square_eq {k : Nat} (hk : 200 ≤ k) {n : Nat} (hn : n ≤ 12) (a z : Int) : ∃ T, ref03_square k (n : Int) a z = some T ∧ IsTab (n + 1) (sq a z) T := by
  have lm : 5000 ≤ lim := by decide
  refine ⟨_, ?_, tab_range⟩
  unfold ref03_square
  refine (loop2_out (P := fun _ _ r => r = (List.range (n + 1)).map fun u => (List.range (n + 1)).map fun v => sq a z u v) (I := fun s i => s = (List.range i).map fun u => (List.range (n + 1)).map fun v => sq a z u v) (n + 1) (fun s hI rec => ?_) (fun s i hi hI rec ih => ?_) k 0 _ (Nat.zero_le _) (by omega) rfl).eq
  · subst hI
    rw [ref03_square.b0, decide_eq_false (by omega), cond_false]; exact ⟨_, rfl, rfl⟩
  · subst hI
    rw [ref03_square.b0, decide_eq_true (by omega), cond_true]
    refine loop2_out (P := fun _ _ r => r = (List.range (n + 1)).map fun u => (List.range (n + 1)).map fun v => sq a z u v) (I := fun s j => s = (List.range j).map fun v => sq a z i v) (n + 1) (fun s hI rec1 => ?_) (fun s j hj hI rec1 ih1 => ?_) k 0 _ (Nat.zero_le _) (by omega) rfl
    · subst hI
      rw [ref03_square.b1, decide_eq_false (by omega), cond_false, gd (show _ ≤ lim by rw [List.length_map, List.length_range]; omega), gd (inR_nat (n := i) (by omega))]
      exact ih _ (range_snoc _ i).symm
    · subst hI
      rw [ref03_square.b1, decide_eq_true (by omega), cond_true]
      have e : sq a z i j = if i = j then z else a := rfl
      by_cases c : i = j
      · have c' : ((i : Int) == (j : Int)) = true := by rw [beq_iff_eq]; omega
        rw [c', cond_true, gd (show _ ≤ lim by rw [List.length_map, List.length_range, List.length_singleton]; omega), gd (inR_nat (n := j) (by omega))]
        exact ih1 _ (by rw [range_snoc, e, if_pos c])
      · have c' : ((i : Int) == (j : Int)) = false := by rw [beq_eq_false_iff_ne]; omega
        rw [c', cond_false, gd (show _ ≤ lim by rw [List.length_map, List.length_range, List.length_singleton]; omega), gd (inR_nat (n := j) (by omega))]
        exact ih1 _ (by rw [range_snoc, e, if_neg c])
theorem rd_repl (N : Nat) (a : Int) {v : Nat} (h : v < N) : rd (List.replicate N a) (v : Int) = a := by rw [rd_get1 (by simpa using h)]; simp
theorem fresh_eq {k : Nat} (hk : 200 ≤ k) {n : Nat} (hn : n ≤ 12) : ∃ T, difference_fresh k (n : Int) = some T ∧ IsTab (n + 1) (sq far 0) T := by
  have lm : 5000 ≤ lim := by decide
  have ef : (1125899906842624 : Int) = far := rfl
  refine ⟨(List.range (n + 1)).map fun u => (List.replicate (n + 1) far).set u 0, ?_, by simp, fun u hu => ?_, fun u v hu hv => ?_⟩
  · unfold difference_fresh
    rw [gd (inR_nat (n := n) (by omega))]
    refine (loop2_out (P := fun _ _ r => r = (List.range (n + 1)).map fun u => (List.replicate (n + 1) far).set u 0) (I := fun s i => s = (List.range i).map fun u => (List.replicate (n + 1) far).set u 0) (n + 1) (fun s hI rec => ?_) (fun s i hi hI rec ih => ?_) k 0 _ (Nat.zero_le _) (by omega) rfl).eq
    · subst hI
      rw [difference_fresh.b0, decide_eq_false (by omega), cond_false]; exact ⟨_, rfl, rfl⟩
    · subst hI
      rw [difference_fresh.b0, decide_eq_true (by omega), cond_true, gd (inR_nat (n := n) (by omega)), ef, repeat_eq (by omega) hn, Option.bind_some, gd ⟨by omega, by rw [List.length_replicate]; omega⟩, gd (show _ ≤ lim by rw [List.length_map, List.length_range, List.length_singleton]; omega), gd (inR_nat (n := i) (by omega))]
      exact ih _ (range_snoc _ i).symm
  · rw [rd_range _ hu]; simp
  · rw [rd_range _ hu, rd_setI (by simpa using hu)]
    unfold sq
    by_cases c : u = v
    · rw [if_pos c, if_pos c.symm]
    · rw [if_neg c, if_neg (Ne.symm c), rd_repl _ _ hv]
def fo (t : Nat → Nat → Int) (u v : Nat) (l : List A3) : Int := l.foldl (fun m a => if a.1 = u ∧ t a.2.1 v < far then min m (a.2.2 + t a.2.1 v) else m) far
theorem fo_snoc (t : Nat → Nat → Int) (u v : Nat) (l : List A3) (a : A3) : fo t u v (l ++ [a]) = if a.1 = u ∧ t a.2.1 v < far then min (fo t u v l) (a.2.2 + t a.2.1 v) else fo t u v l := by
  unfold fo; rw [List.foldl_append]; rfl
def gj (t : Nat → Nat → Int) (l : List A3) (a : A3) (j u v : Nat) : Int := if v < j then fo t u v (l ++ [a]) else fo t u v l
theorem minI_eq (a b : Int) : minI a b = min a b := by unfold minI; split <;> omega
theorem rd_setL {X : List (List Int)} {f : Nat} (hf : f < X.length) (y : List Int) (v : Nat) : rd (X.set f y) (v : Int) = if v = f then y else rd X (v : Int) := by
  by_cases e : v = f
  · subst e; rw [if_pos rfl]; simp [rd, List.getD, List.getElem?_set, hf]
  · rw [if_neg e]; simp [rd, List.getD, List.getElem?_set, Ne.symm e]
theorem tab_upd {N : Nat} {t : Nat → Nat → Int} {l : List A3} {a : A3} {j : Nat} {X : List (List Int)} (h : IsTab N (gj t l a j) X) (ha : a.1 < N) (hj : j < N) :
    (t a.2.1 j < far → IsTab N (gj t l a (j + 1)) (X.set a.1 ((rd X (a.1 : Int)).set j (minI (rd (rd X (a.1 : Int)) (j : Int)) (a.2.2 + t a.2.1 j))))) ∧ (¬ t a.2.1 j < far → IsTab N (gj t l a (j + 1)) X) := by
  have hl := h.len; have hr := h.row a.1 ha
  have e0 := h.ent a.1 j ha hj
  unfold gj at e0; rw [if_neg (Nat.lt_irrefl _)] at e0
  constructor
  · intro c
    refine ⟨by rw [List.length_set]; exact hl, fun u hu => ?_, fun u v hu hv => ?_⟩
    · rw [rd_setL (by omega)]
      split
      · rw [List.length_set]; exact hr
      · exact h.row u hu
    · rw [rd_setL (by omega)]
      by_cases eu : u = a.1
      · subst eu
        rw [if_pos rfl, rd_setI (by omega)]
        by_cases ev : v = j
        · subst ev
          rw [if_pos rfl, e0, minI_eq]
          unfold gj
          rw [if_pos (by omega), fo_snoc, if_pos ⟨rfl, c⟩]
        · rw [if_neg ev, h.ent _ v ha hv]
          unfold gj
          by_cases d : v < j
          · rw [if_pos d, if_pos (by omega)]
          · rw [if_neg d, if_neg (by omega)]
      · rw [if_neg eu, h.ent u v hu hv]
        unfold gj
        by_cases d : v < j
        · rw [if_pos d, if_pos (by omega)]
        · rw [if_neg d]
          by_cases e : v < j + 1
          · rw [if_pos e, fo_snoc, if_neg (fun q => eu q.1.symm)]
          · rw [if_neg e]
  · intro c
    refine h.congr fun u v hu hv => ?_
    unfold gj
    by_cases d : v < j
    · rw [if_pos d, if_pos (by omega)]
    · rw [if_neg d]
      by_cases e : v < j + 1
      · obtain rfl : v = j := by omega
        rw [if_pos e, fo_snoc, if_neg (fun q => c q.2)]
      · rw [if_neg e]
theorem tab_rng {n : Nat} {A : List Arc} (ok : ArcsOk n A) {r : Nat} (hr : r ≤ 40) {u v : Nat} (h : tab (A.map a3) r u v < far) : -80000000 ≤ tab (A.map a3) r u v ∧ tab (A.map a3) r u v ≤ 80000000 := by
  have := walk_bound (C := 2000000) ok.most (tab_walk r u v h)
  omega
theorem inner_bounds {n : Nat} {A : List Arc} (ok : ArcsOk n A) {r : Nat} (hr : r ≤ 40) {T : List (List Int)} (hT : IsTab (n + 1) (tab (A.map a3) r) T) {i : Nat} (hi : i < A.length) {j : Nat} (hj : j < n + 1) :
    rd (rd T (rd A (i : Int)).fto) (j : Int) = tab (A.map a3) r (a3 (rd A (i : Int))).2.1 j ∧ (0 ≤ (rd A (i : Int)).fto ∧ (rd A (i : Int)).fto < (T.length : Int)) ∧ (0 ≤ (j : Int) ∧ (j : Int) < ((rd T (rd A (i : Int)).fto).length : Int)) := by
  have o := ok.at hi
  have t0 := o.t0; have t1 := o.t1
  have e : (rd A (i : Int)).fto = ((a3 (rd A (i : Int))).2.1 : Int) := by show _ = (((rd A (i : Int)).fto.toNat : Nat) : Int); omega
  have hlt : (a3 (rd A (i : Int))).2.1 < n + 1 := by show (rd A (i : Int)).fto.toNat < n + 1; omega
  have hl := hT.len
  have hrow := hT.row _ hlt
  have hent := hT.ent _ j hlt hj
  rw [← e] at hrow hent
  exact ⟨hent, ⟨t0, by omega⟩, by omega, by omega⟩
def Sweeps (n : Nat) (A : List Arc) (r : Nat) (T : List (List Int)) : Prop := IsTab (n + 1) (tab (A.map a3) (r + 1)) T
theorem gj_end {n : Nat} {t : Nat → Nat → Int} {l : List A3} {a : A3} {X : List (List Int)} (h : IsTab (n + 1) (gj t l a (n + 1)) X) : IsTab (n + 1) (fun u v => fo t u v (l ++ [a])) X :=
  h.congr fun u v hu hv => by unfold gj; rw [if_pos hv]
theorem gj_start {n : Nat} {t : Nat → Nat → Int} {l : List A3} {a : A3} {X : List (List Int)} (h : IsTab (n + 1) (fun u v => fo t u v l) X) : IsTab (n + 1) (gj t l a 0) X :=
  h.congr fun u v hu hv => by unfold gj; rw [if_neg (Nat.not_lt_zero _)]
theorem longer_eq {k : Nat} (hk : 200 ≤ k) {n : Nat} {A : List Arc} (ok : ArcsOk n A) {r : Nat} (hr : r ≤ 40) {T : List (List Int)} (hT : IsTab (n + 1) (tab (A.map a3) r) T) :
    Out (difference_longer k T A) (IsTab (n + 1) (tab (A.map a3) (r + 1))) := by
  have lm : 5000 ≤ lim := by decide
  have n1 := ok.n1; have al := ok.len; have tl := hT.len
  have ef : (1125899906842624 : Int) = far := rfl
  have e1 : ((T.length : Int) - 1) + 1 = (n : Int) + 1 := by omega
  have far' : far = 1125899906842624 := rfl
  unfold difference_longer
  rw [gd (show inR ((T.length : Int) - 1) from inR_small ⟨by omega, by omega⟩), e1, gd (inR_nat (n := n) (by omega))]
  refine loop2_out (P := fun _ _ r' => IsTab (n + 1) (tab (A.map a3) (r + 1)) r') (I := fun s i => s = (List.range i).map fun _ => List.replicate (n + 1) far) (n + 1) (fun s hI rec => ?_) (fun s i hi hI rec ih => ?_) k 0 _ (Nat.zero_le _) (by omega) rfl
  · rw [difference_longer.b0, e1, decide_eq_false (by omega), cond_false]
    have start : IsTab (n + 1) (fun u v => fo (tab (A.map a3) r) u v ((A.take 0).map a3)) s := by
      subst hI
      exact ⟨by simp, fun u hu => by rw [rd_range _ hu]; simp, fun u v hu hv => by rw [rd_range _ hu, rd_repl _ _ hv]; rfl⟩
    refine loop2_out (P := fun _ _ r' => IsTab (n + 1) (tab (A.map a3) (r + 1)) r') (I := fun X i => IsTab (n + 1) (fun u v => fo (tab (A.map a3) r) u v ((A.take i).map a3)) X) A.length (fun X hX rec1 => ?_) (fun X i hi hX rec1 ih1 => ?_) k 0 s (Nat.zero_le _) (by omega) start
    · rw [difference_longer.b1, decide_eq_false (show ¬ (A.length : Int) < (A.length : Int) by omega), cond_false]
      rw [List.take_length] at hX
      exact ⟨_, rfl, hX⟩
    · have o := ok.at hi
      have f0 := o.f0; have f1 := o.f1; have m0 := o.m0; have m1 := o.m1
      have ef' : (rd A (i : Int)).ffrom = ((a3 (rd A (i : Int))).1 : Int) := by show _ = (((rd A (i : Int)).ffrom.toNat : Nat) : Int); omega
      have flt : (a3 (rd A (i : Int))).1 < n + 1 := by show (rd A (i : Int)).ffrom.toNat < n + 1; omega
      rw [difference_longer.b1, decide_eq_true (show (i : Int) < (A.length : Int) by omega), cond_true, gd ⟨by omega, by omega⟩, e1, gd (inR_nat (n := n) (by omega))]
      refine loop2_out (P := fun _ _ r' => IsTab (n + 1) (tab (A.map a3) (r + 1)) r') (I := fun Y j => IsTab (n + 1) (gj (tab (A.map a3) r) ((A.take i).map a3) (a3 (rd A (i : Int))) j) Y) (n + 1) (fun Y hY rec2 => ?_) (fun Y j hj hY rec2 ih2 => ?_) k 0 X (Nat.zero_le _) (by omega) (gj_start hX)
      · rw [difference_longer.b2, e1, decide_eq_false (by omega), cond_false, gd (inR_nat (n := i) (by omega))]
        refine ih1 _ ?_
        rw [take_map_snoc hi]; exact gj_end hY
      · obtain ⟨hv, gt, gjj⟩ := inner_bounds ok hr hT hi hj
        obtain ⟨u1, u2⟩ := tab_upd hY flt hj
        have yl := hY.len; have yr := hY.row _ flt
        rw [← ef'] at yr u1
        have gf : (0 : Int) ≤ (rd A (i : Int)).ffrom ∧ (rd A (i : Int)).ffrom < (Y.length : Int) := ⟨f0, by omega⟩
        have gy : (0 : Int) ≤ (j : Int) ∧ (j : Int) < ((rd Y (rd A (i : Int)).ffrom).length : Int) := ⟨by omega, by omega⟩
        rw [difference_longer.b2, e1, decide_eq_true (show (j : Int) < (n : Int) + 1 by omega), cond_true, gd gt, gd gjj, hv, ef]
        by_cases c : tab (A.map a3) r (a3 (rd A (i : Int))).2.1 j < far
        · have b := tab_rng ok hr c
          rw [decide_eq_true c, cond_true, gd gf, gd gf, gd gy, gd gt, gd gjj, gd (inR_small ⟨by omega, by omega⟩), gd gy, gd (inR_nat (n := j) (by omega))]
          exact ih2 _ (u1 c)
        · rw [decide_eq_false c, cond_false, gd (inR_nat (n := j) (by omega))]
          exact ih2 _ (u2 c)
  · subst hI
    rw [difference_longer.b0, e1, decide_eq_true (show (i : Int) < (n : Int) + 1 by omega), cond_true, gd (inR_nat (n := n) (by omega)), ef, repeat_eq (by omega) n1, Option.bind_some, gd (show _ ≤ lim by rw [List.length_map, List.length_range]; omega), gd (inR_nat (n := i) (by omega))]
    exact ih _ (range_snoc _ i).symm
theorem rd_conv {A : List Arc} {i : Nat} (hi : i < A.length) : rd (A.map conv) (i : Int) = conv (rd A (i : Int)) := by rw [rd_get1 (by simpa using hi), rd_get1 hi]; simp
theorem further_eq {k : Nat} (hk : 200 ≤ k) {n : Nat} {A : List Arc} (ok : ArcsOk n A) {r : Nat} (hr : r ≤ 40) {T : List (List Int)} (hT : IsTab (n + 1) (tab (A.map a3) r) T) :
    Out (ref03_further k (n : Int) (A.map conv) T) (IsTab (n + 1) (tab (A.map a3) (r + 1))) := by
  have n1 := ok.n1; have al := ok.len; have tl := hT.len
  have ef : (1125899906842624 : Int) = far := rfl
  have far' : far = 1125899906842624 := rfl
  have cl : (A.map conv).length = A.length := List.length_map _
  unfold ref03_further
  obtain ⟨s, es, hs⟩ := square_eq (k := k) hk n1 1125899906842624 1125899906842624
  rw [es, Option.bind_some]
  have start : IsTab (n + 1) (fun u v => fo (tab (A.map a3) r) u v ((A.take 0).map a3)) s := hs.congr fun u v _ _ => by
    show sq far far u v = far
    unfold sq; split <;> rfl
  refine loop2_out (P := fun _ _ r' => IsTab (n + 1) (tab (A.map a3) (r + 1)) r') (I := fun X i => IsTab (n + 1) (fun u v => fo (tab (A.map a3) r) u v ((A.take i).map a3)) X) A.length (fun X hX rec1 => ?_) (fun X i hi hX rec1 ih1 => ?_) k 0 s (Nat.zero_le _) (by omega) start
  · rw [ref03_further.b0, cl, decide_eq_false (show ¬ (A.length : Int) < (A.length : Int) by omega), cond_false]
    rw [List.take_length] at hX
    exact ⟨_, rfl, hX⟩
  · have o := ok.at hi
    have f0 := o.f0; have f1 := o.f1; have m0 := o.m0; have m1 := o.m1
    have ef' : (rd A (i : Int)).ffrom = ((a3 (rd A (i : Int))).1 : Int) := by show _ = (((rd A (i : Int)).ffrom.toNat : Nat) : Int); omega
    have flt : (a3 (rd A (i : Int))).1 < n + 1 := by show (rd A (i : Int)).ffrom.toNat < n + 1; omega
    rw [ref03_further.b0, cl, decide_eq_true (show (i : Int) < (A.length : Int) by omega), cond_true, gd ⟨by omega, by omega⟩]
    refine loop2_out (P := fun _ _ r' => IsTab (n + 1) (tab (A.map a3) (r + 1)) r') (I := fun Y j => IsTab (n + 1) (gj (tab (A.map a3) r) ((A.take i).map a3) (a3 (rd A (i : Int))) j) Y) (n + 1) (fun Y hY rec2 => ?_) (fun Y j hj hY rec2 ih2 => ?_) k 0 X (Nat.zero_le _) (by omega) (gj_start hX)
    · rw [ref03_further.b1, decide_eq_false (by omega), cond_false, gd (inR_nat (n := i) (by omega))]
      refine ih1 _ ?_
      rw [take_map_snoc hi]; exact gj_end hY
    · obtain ⟨hv, gt, gjj⟩ := inner_bounds ok hr hT hi hj
      obtain ⟨u1, u2⟩ := tab_upd hY flt hj
      have yl := hY.len; have yr := hY.row _ flt
      rw [← ef'] at yr u1
      have gf : (0 : Int) ≤ (rd A (i : Int)).ffrom ∧ (rd A (i : Int)).ffrom < (Y.length : Int) := ⟨f0, by omega⟩
      have gy : (0 : Int) ≤ (j : Int) ∧ (j : Int) < ((rd Y (rd A (i : Int)).ffrom).length : Int) := ⟨by omega, by omega⟩
      have c1 : (conv (rd A (i : Int))).fto = (rd A (i : Int)).fto := rfl
      have c2 : (conv (rd A (i : Int))).ffrom = (rd A (i : Int)).ffrom := rfl
      have c3 : (conv (rd A (i : Int))).fc = (rd A (i : Int)).fmost := rfl
      rw [ref03_further.b1, rd_conv hi, c1, c2, c3, decide_eq_true (show (j : Int) ≤ (n : Int) by omega), cond_true, gd gt, gd gjj, hv, ef]
      by_cases c : tab (A.map a3) r (a3 (rd A (i : Int))).2.1 j < far
      · have b := tab_rng ok hr c
        rw [decide_eq_true c, cond_true, gd gf, gd gf, gd gy, gd gt, gd gjj, gd (inR_small ⟨by omega, by omega⟩), gd gy, gd (inR_nat (n := j) (by omega))]
        exact ih2 _ (u1 c)
      · rw [decide_eq_false c, cond_false, gd (inR_nat (n := j) (by omega))]
        exact ih2 _ (u2 c)
end Go.Proofs.YtcgdfjpeboiioaaGreat
namespace Go.Proofs.YtcgdfjpeboiioaaGreat
open Go Go.Abs Go.Abs.BF
attribute [local irreducible] inR
def mn (L : List A3) : Nat → Nat → Nat → Int
  | 0 => tab L 0
  | r + 1 => fun u v => min (mn L r u v) (tab L (r + 1) u v)
theorem mn_le {L : List A3} {u v : Nat} : ∀ {r s : Nat}, s ≤ r → mn L r u v ≤ tab L s u v
  | 0, s, h => by obtain rfl : s = 0 := by omega
                  exact Int.le_refl _
  | r + 1, s, h => by
    have e : mn L (r + 1) u v = min (mn L r u v) (tab L (r + 1) u v) := rfl
    rcases Nat.lt_or_ge s (r + 1) with c | c
    · have := mn_le (L := L) (u := u) (v := v) (r := r) (s := s) (by omega); omega
    · obtain rfl : s = r + 1 := by omega
      omega
theorem mn_is {L : List A3} {u v : Nat} : ∀ (r : Nat), ∃ s, s ≤ r ∧ mn L r u v = tab L s u v
  | 0 => ⟨0, Nat.le_refl _, rfl⟩
  | r + 1 => by
    obtain ⟨s, hs, e⟩ := mn_is (L := L) (u := u) (v := v) r
    have e' : mn L (r + 1) u v = min (mn L r u v) (tab L (r + 1) u v) := rfl
    rcases Int.le_total (mn L r u v) (tab L (r + 1) u v) with c | c
    · exact ⟨s, by omega, by rw [e', Int.min_eq_left c, e]⟩
    · exact ⟨r + 1, Nat.le_refl _, by rw [e', Int.min_eq_right c]⟩
def mj (f g : Nat → Nat → Int) (i j u v : Nat) : Int := if u < i ∨ (u = i ∧ v < j) then min (f u v) (g u v) else f u v
theorem mj_upd {N : Nat} {f g : Nat → Nat → Int} {i j : Nat} {X : List (List Int)} (h : IsTab N (mj f g i j) X) (hi : i < N) (hj : j < N) :
    IsTab N (mj f g i (j + 1)) (X.set i ((rd X (i : Int)).set j (minI (rd (rd X (i : Int)) (j : Int)) (g i j)))) := by
  have hl := h.len; have hr := h.row i hi
  have e0 := h.ent i j hi hj
  unfold mj at e0; rw [if_neg (by omega)] at e0
  refine ⟨by rw [List.length_set]; exact hl, fun u hu => ?_, fun u v hu hv => ?_⟩
  · rw [rd_setL (by omega)]
    split
    · rw [List.length_set]; exact hr
    · exact h.row u hu
  · rw [rd_setL (by omega)]
    by_cases eu : u = i
    · subst eu
      rw [if_pos rfl, rd_setI (by omega)]
      by_cases ev : v = j
      · subst ev
        rw [if_pos rfl, e0, minI_eq]
        unfold mj; rw [if_pos (by omega)]
      · rw [if_neg ev, h.ent _ v hu hv]
        unfold mj
        by_cases d : v < j
        · rw [if_pos (by omega), if_pos (by omega)]
        · rw [if_neg (by omega), if_neg (by omega)]
    · rw [if_neg eu, h.ent u v hu hv]
      unfold mj
      by_cases d : u < i
      · rw [if_pos (by omega), if_pos (by omega)]
      · rw [if_neg (by omega), if_neg (by omega)]
theorem mj_row {N : Nat} {f g : Nat → Nat → Int} {i : Nat} {X : List (List Int)} (h : IsTab N (mj f g i N) X) : IsTab N (mj f g (i + 1) 0) X :=
  h.congr fun u v hu hv => by
    unfold mj
    by_cases d : u < i + 1
    · rw [if_pos (by omega), if_pos (by omega)]
    · rw [if_neg (by omega), if_neg (by omega)]
theorem ref_distances_out {k : Nat} (hk : 200 ≤ k) {n : Nat} {l : List Test} (T : TestsOk (n : Int) l) (ok : ArcsOk n (arcsN l l.length)) :
    Out (ref03_distances k (n : Int) l) (fun r => (r.2 = true → ∀ v : Nat, v < n + 1 → 0 ≤ mn ((arcsN l l.length).map a3) (n + 2) v v) ∧ (r.2 = false → ∃ v : Nat, v < n + 1 ∧ mn ((arcsN l l.length).map a3) (n + 2) v v < 0)) := by
  have n1 := ok.n1
  unfold ref03_distances
  obtain ⟨s, es, hs⟩ := square_eq (k := k) hk n1 1125899906842624 0
  rw [ref_arcs_eq hk T, Option.bind_some, es, Option.bind_some, Option.bind_some]
  have t0 : IsTab (n + 1) (tab ((arcsN l l.length).map a3) 0) s := hs.congr fun u v _ _ => rfl
  refine loop3_out (P := fun (r : List (List Int) × Bool) => (r.2 = true → ∀ v : Nat, v < n + 1 → 0 ≤ mn ((arcsN l l.length).map a3) (n + 2) v v) ∧ (r.2 = false → ∃ v : Nat, v < n + 1 ∧ mn ((arcsN l l.length).map a3) (n + 2) v v < 0))
    (I := fun X Y r => IsTab (n + 1) (mn ((arcsN l l.length).map a3) r) X ∧ IsTab (n + 1) (tab ((arcsN l l.length).map a3) r) Y) (n + 2) (fun X Y hI rec => ?_) (fun X Y r hr hI rec ih => ?_) k 0 s s (Nat.zero_le _) (by omega) ⟨t0, t0⟩
  · obtain ⟨hX, hY⟩ := hI
    have xl := hX.len
    rw [ref03_distances.b0, gd (inR_nat (n := n) (by omega)), decide_eq_false (by omega), cond_false]
    refine loop1_out (I := fun i => ∀ v : Nat, v < i → 0 ≤ mn ((arcsN l l.length).map a3) (n + 2) v v) (P := fun _ (r : List (List Int) × Bool) => (r.2 = true → ∀ v : Nat, v < n + 1 → 0 ≤ mn ((arcsN l l.length).map a3) (n + 2) v v) ∧ (r.2 = false → ∃ v : Nat, v < n + 1 ∧ mn ((arcsN l l.length).map a3) (n + 2) v v < 0)) (n + 1) (fun hI rec => ?_) (fun i hi hI rec ih => ?_) k 0 (Nat.zero_le _) (by omega) (fun v hv => absurd hv (Nat.not_lt_zero _))
    · rw [ref03_distances.b3, decide_eq_false (by omega), cond_false]
      exact ⟨_, rfl, fun _ => hI, fun h => (by cases h)⟩
    · have hrow := hX.row i hi
      rw [ref03_distances.b3, decide_eq_true (show (i : Int) ≤ (n : Int) by omega), cond_true, gd ⟨by omega, by omega⟩, gd ⟨by omega, by omega⟩, hX.ent i i hi hi]
      by_cases c : mn ((arcsN l l.length).map a3) (n + 2) i i < 0
      · rw [decide_eq_true c, cond_true]
        exact ⟨_, rfl, fun h => (by cases h), fun _ => ⟨i, hi, c⟩⟩
      · rw [decide_eq_false c, cond_false, gd (inR_nat (n := i) (by omega))]
        refine ih fun v hv => ?_
        rcases Nat.lt_succ_iff_lt_or_eq.1 hv with hv | rfl
        · exact hI v hv
        · omega
  · obtain ⟨hX, hY⟩ := hI
    obtain ⟨U, eU, hU⟩ := further_eq (k := k) hk ok (r := r) (by omega) hY
    have ul := hU.len
    rw [ref03_distances.b0, gd (inR_nat (n := n) (by omega)), decide_eq_true (show (r : Int) ≤ (n : Int) + 1 by omega), cond_true, eU, Option.bind_some]
    refine loop2_out (P := fun _ _ (r : List (List Int) × Bool) => (r.2 = true → ∀ v : Nat, v < n + 1 → 0 ≤ mn ((arcsN l l.length).map a3) (n + 2) v v) ∧ (r.2 = false → ∃ v : Nat, v < n + 1 ∧ mn ((arcsN l l.length).map a3) (n + 2) v v < 0))
      (I := fun Z i => IsTab (n + 1) (mj (mn ((arcsN l l.length).map a3) r) (tab ((arcsN l l.length).map a3) (r + 1)) i 0) Z) (n + 1) (fun Z hZ rec1 => ?_) (fun Z i hi hZ rec1 ih1 => ?_) k 0 X (Nat.zero_le _) (by omega) ?_
    · rw [ref03_distances.b1, decide_eq_false (by omega), cond_false, gd (inR_nat (n := r) (by omega))]
      exact ih _ _ ⟨hZ.congr fun u v hu hv => by unfold mj; rw [if_pos (by omega)]; rfl, hU⟩
    · rw [ref03_distances.b1, decide_eq_true (show (i : Int) ≤ (n : Int) by omega), cond_true]
      refine loop2_out (P := fun _ _ (r : List (List Int) × Bool) => (r.2 = true → ∀ v : Nat, v < n + 1 → 0 ≤ mn ((arcsN l l.length).map a3) (n + 2) v v) ∧ (r.2 = false → ∃ v : Nat, v < n + 1 ∧ mn ((arcsN l l.length).map a3) (n + 2) v v < 0))
        (I := fun Z j => IsTab (n + 1) (mj (mn ((arcsN l l.length).map a3) r) (tab ((arcsN l l.length).map a3) (r + 1)) i j) Z) (n + 1) (fun Z hZ rec2 => ?_) (fun Z j hj hZ rec2 ih2 => ?_) k 0 Z (Nat.zero_le _) (by omega) hZ
      · rw [ref03_distances.b2, decide_eq_false (by omega), cond_false, gd (inR_nat (n := i) (by omega))]
        exact ih1 _ (mj_row hZ)
      · have zl := hZ.len; have zr := hZ.row i hi; have ur := hU.row i hi
        have g1 : (0 : Int) ≤ (i : Int) ∧ (i : Int) < (Z.length : Int) := ⟨by omega, by omega⟩
        have g2 : (0 : Int) ≤ (j : Int) ∧ (j : Int) < ((rd Z (i : Int)).length : Int) := ⟨by omega, by omega⟩
        rw [ref03_distances.b2, decide_eq_true (show (j : Int) ≤ (n : Int) by omega), cond_true, gd g1, gd g1, gd g2, gd ⟨by omega, by omega⟩, gd ⟨by omega, by omega⟩, gd g2, gd (inR_nat (n := j) (by omega)), hU.ent i j hi hj]
        exact ih2 _ (mj_upd hZ hi hj)
    · exact hX.congr fun u v hu hv => by unfold mj; rw [if_neg (by omega)]
theorem neg_tab {n : Nat} {A : List Arc} (ok : ArcsOk n A) (h : Neg (A.map a3) (n + 1)) : ∃ b m, 1 ≤ b ∧ b ≤ n + 1 ∧ m < n + 1 ∧ tab (A.map a3) b m m < 0 := by
  obtain ⟨b, m, x, h1, h2, h3, h4⟩ := h
  have n1 := ok.n1
  have hm : m < n + 1 := by
    cases h3 with
    | nil u => omega
    | cons ha _ => exact (ok.lt _ ha).1
  have := tab_le (C := 2000000) ok.most b m m x (by unfold far; omega) (by omega) h3
  exact ⟨b, m, h1, h2, hm, by omega⟩
theorem distances_two {k : Nat} (hk : 200 ≤ k) {n : Nat} {l : List Test} (T : TestsOk (n : Int) l) (ok : ArcsOk n (arcsN l l.length)) :
    ∃ r r', difference_distances k (n : Int) (arcsN l l.length) = some r ∧ ref03_distances k (n : Int) l = some r' ∧ r.2 = r'.2 ∧ (r.2 = false → Neg ((arcsN l l.length).map a3) (n + 1)) := by
  obtain ⟨r, e, h1, h2⟩ := distances_out (k := k) hk ok
  obtain ⟨r', e', h3, h4⟩ := ref_distances_out hk T ok
  refine ⟨r, r', e, e', ?_, h2⟩
  cases c : r.2 with
  | true =>
    cases c' : r'.2 with
    | true => rfl
    | false =>
      obtain ⟨v, hv, hm⟩ := h4 c'
      obtain ⟨s, hs, es⟩ := mn_is (L := (arcsN l l.length).map a3) (u := v) (v := v) (n + 2)
      rw [es] at hm
      have w := tab_walk s v v (L := (arcsN l l.length).map a3) (by unfold far; omega)
      have := h1 c s v _ w
      omega
  | false =>
    cases c' : r'.2 with
    | false => rfl
    | true =>
      obtain ⟨b, m, -, hb, hm, hn⟩ := neg_tab ok (h2 c)
      have h5 := h3 c' m hm
      have h6 := mn_le (L := (arcsN l l.length).map a3) (u := m) (v := m) (r := n + 2) (s := b) (by omega)
      omega
end Go.Proofs.YtcgdfjpeboiioaaGreat
namespace Go.Proofs.YtcgdfjpeboiioaaGreat
open Go Go.Abs Go.Abs.BF
attribute [local irreducible] inR
structure Tabs (n : Nat) (A : List Arc) (m : Nat) (X : List (List (List Int))) : Prop where
  len : X.length = m + 1
  tab : ∀ r : Nat, r ≤ m → IsTab (n + 1) (BF.tab (A.map a3) r) (rd X (r : Int))
theorem loop5_succ {A B C D E R : Type} (k : Nat) (f : (A → B → C → D → E → Option R) → A → B → C → D → E → Option R) (a : A) (b : B) (c : C) (d : D) (e : E) : loop5 (k + 1) f a b c d e = f (loop5 k f) a b c d e := rfl
theorem ent_at {n : Nat} {A : List Arc} (ok : ArcsOk n A) {m : Nat} {X : List (List (List Int))} (hX : Tabs n A m X) {s : Nat} (hs : s ≤ m) (h40 : s ≤ 40) {i : Nat} (hi : i < A.length) {τ : Int} (t0 : 0 ≤ τ) (t1 : τ ≤ (n : Int)) :
    rd (rd (rd X (s : Int)) (rd A (i : Int)).fto) τ = BF.tab (A.map a3) s (rd A (i : Int)).fto.toNat τ.toNat ∧ (0 ≤ (rd A (i : Int)).fto ∧ (rd A (i : Int)).fto < ((rd X (s : Int)).length : Int)) ∧ (0 ≤ τ ∧ τ < ((rd (rd X (s : Int)) (rd A (i : Int)).fto).length : Int)) := by
  obtain ⟨h1, h2, h3⟩ := inner_bounds ok h40 (hX.tab s hs) hi (j := τ.toNat) (by omega)
  rw [show ((τ.toNat : Nat) : Int) = τ by omega] at h1 h3
  exact ⟨h1, h2, h3⟩
structure Tr (n : Nat) (s : Nat) (us : List Use) (st at1 at2 sum : Int) : Prop where
  len : us.length + s ≤ 40
  st0 : -1 ≤ st
  st1 : st ≤ (n : Int)
  same : st < 0 ∨ at1 = at2
  lo : -200000000 + 2000000 * (s : Int) ≤ sum
  hi : sum ≤ 200000000 - 2000000 * (s : Int)
theorem trace_two {k0 : Nat} {n : Nat} {A : List Arc} (ok : ArcsOk n A) {m : Nat} {X : List (List (List Int))} (hX : Tabs n A m X) (hm : m ≤ 40) (hk0 : 200 ≤ k0) :
    ∀ (s : Nat), s ≤ m → ∀ (k : Nat), s < k → ∀ (us : List Use) (st at1 at2 sum : Int), Tr n s us st at1 at2 sum →
      ∃ r, loop5 k (difference_Refute.b1 k0 A X) us st at1 sum ((s : Int) - 1) = some r ∧ loop5 k (ref03_Refute.b2 k0 (A.map conv) X) us st at2 sum ((s : Int) - 1) = some r ∧ r.1.length ≤ 40 := by
  have lm : 5000 ≤ lim := by decide
  have al := ok.len; have n1 := ok.n1
  have cl : (A.map conv).length = A.length := List.length_map _
  have ef : (1125899906842624 : Int) = far := rfl
  have far' : far = 1125899906842624 := rfl
  intro s
  induction s with
  | zero =>
    intro _ k hk us st at1 at2 sum T
    obtain ⟨k', rfl⟩ : ∃ q, k = q + 1 := ⟨k - 1, by omega⟩
    rw [loop5_succ, loop5_succ, difference_Refute.b1, ref03_Refute.b2, decide_eq_false (by omega), cond_false, cond_false]
    exact ⟨_, rfl, rfl, by have := T.len; show us.length ≤ 40; omega⟩
  | succ s ih =>
    intro hs k hk us st at1 at2 sum T
    obtain ⟨k', rfl⟩ : ∃ q, k = q + 1 := ⟨k - 1, by omega⟩
    have es : (((s + 1 : Nat) : Int) - 1) = (s : Int) := by omega
    have tl := T.len; have s0 := T.st0; have s1 := T.st1; have lo := T.lo; have hi := T.hi
    rw [loop5_succ, loop5_succ, es, difference_Refute.b1, ref03_Refute.b2, decide_eq_true (show (s : Int) ≥ 0 by omega), cond_true, cond_true]
    unfold jn; dsimp only
    have xl := hX.len
    have gX : (0 : Int) ≤ (s : Int) ∧ (s : Int) < (X.length : Int) := ⟨by omega, by omega⟩
    have next : ∀ (us' : List Use) (st' a1 a2 sum' : Int), Tr n s us' st' a1 a2 sum' → ∃ r, (if inR ((s : Int) - 1) then loop5 k' (difference_Refute.b1 k0 A X) us' st' a1 sum' ((s : Int) - 1) else none) = some r ∧ (if inR ((s : Int) - 1) then loop5 k' (ref03_Refute.b2 k0 (A.map conv) X) us' st' a2 sum' ((s : Int) - 1) else none) = some r ∧ r.1.length ≤ 40 := fun us' st' a1 a2 sum' T' => by
      rw [gd (inR_pred (n := s) (by omega)), gd (inR_pred (n := s) (by omega))]
      exact ih (by omega) k' (by omega) us' st' a1 a2 sum' T'
    refine loop1_two (Q := fun r : List Use × Int => r.1.length ≤ 40) A.length (fun rec rec' => ?_) (fun i hi' rec rec' ihi => ?_) k0 0 (Nat.zero_le _) (by omega)
    · rw [difference_Refute.b2, ref03_Refute.b3, cl, decide_eq_false (show ¬ (A.length : Int) < (A.length : Int) by omega), cond_false, cond_false]
      exact next us st at1 at2 sum ⟨by omega, s0, s1, T.same, by omega, by omega⟩
    · have o := ok.at hi'
      have f0 := o.f0; have f1 := o.f1; have t0 := o.t0; have t1 := o.t1; have m0 := o.m0; have m1 := o.m1
      have gi : (0 : Int) ≤ (i : Int) ∧ (i : Int) < (A.length : Int) := ⟨by omega, by omega⟩
      have c1 : (conv (rd A (i : Int))).fto = (rd A (i : Int)).fto := rfl
      have c2 : (conv (rd A (i : Int))).ffrom = (rd A (i : Int)).ffrom := rfl
      have c3 : (conv (rd A (i : Int))).fc = (rd A (i : Int)).fmost := rfl
      have c4 : (conv (rd A (i : Int))).fuse = (rd A (i : Int)).fuse := rfl
      rw [difference_Refute.b2, ref03_Refute.b3, cl, rd_conv hi', c1, c2, c3, c4, decide_eq_true gi.2, cond_true, cond_true, gd gi]
      unfold jn; dsimp only
      have skip : ∃ r, (if inR ((i : Int) + 1) then rec ((i : Int) + 1) else none) = some r ∧ (if inR ((i : Int) + 1) then rec' ((i : Int) + 1) else none) = some r ∧ r.1.length ≤ 40 := by
        rw [gd (inR_nat (n := i) (by omega)), gd (inR_nat (n := i) (by omega))]; exact ihi
      have gS : inR (sum + (rd A (i : Int)).fmost) := inR_small ⟨by omega, by omega⟩
      by_cases c : st < 0
      · rw [decide_eq_true c, decide_eq_false (show ¬ st ≥ 0 by omega), cond_true, cond_false, cond_false, cond_true, gd gi]
        obtain ⟨ee, gt, gτ⟩ := ent_at ok hX (show s ≤ m by omega) (by omega) hi' f0 f1
        repeat rw [gd gX]
        repeat rw [gd gt]
        repeat rw [gd gi]
        repeat rw [gd gτ]
        rw [ee, ef]
        by_cases d : BF.tab (A.map a3) s (rd A (i : Int)).fto.toNat (rd A (i : Int)).ffrom.toNat < far
        · have b := tab_rng ok (show s ≤ 40 by omega) d
          have gT : inR (sum + (rd A (i : Int)).fmost + BF.tab (A.map a3) s (rd A (i : Int)).fto.toNat (rd A (i : Int)).ffrom.toNat) := inR_small ⟨by omega, by omega⟩
          rw [decide_eq_true d, cond_true, cond_true]
          repeat rw [gd gS]
          repeat rw [gd gT]
          repeat rw [gd gi]
          cases e : decide (sum + (rd A (i : Int)).fmost + BF.tab (A.map a3) s (rd A (i : Int)).fto.toNat (rd A (i : Int)).ffrom.toNat < 0) with
          | false =>
            repeat rw [cond_false]
            exact skip
          | true =>
            repeat rw [cond_true]
            repeat rw [cond_false]
            repeat rw [gd (show us.length + [(rd A (i : Int)).fuse].length ≤ lim by rw [List.length_singleton]; omega)]
            exact next _ _ _ _ _ ⟨by rw [List.length_append, List.length_singleton]; omega, by omega, f1, .inr rfl, by omega, by omega⟩
        · rw [decide_eq_false d]; repeat rw [cond_false]
          exact skip
      · have same : at1 = at2 := by rcases T.same with h | h; exact absurd h c; exact h
        subst same
        rw [decide_eq_false c, decide_eq_true (show st ≥ 0 by omega), cond_false, cond_true, gd gi]
        cases g : ((rd A (i : Int)).ffrom != at1) with
        | true => rw [cond_true, cond_true]; exact skip
        | false =>
          repeat rw [cond_false]
          obtain ⟨ee, gt, gτ⟩ := ent_at ok hX (show s ≤ m by omega) (by omega) hi' (show 0 ≤ st by omega) s1
          repeat rw [gd gX]
          repeat rw [gd gt]
          repeat rw [gd gi]
          repeat rw [gd gτ]
          rw [ee, ef]
          by_cases d : BF.tab (A.map a3) s (rd A (i : Int)).fto.toNat st.toNat < far
          · have b := tab_rng ok (show s ≤ 40 by omega) d
            have gT : inR (sum + (rd A (i : Int)).fmost + BF.tab (A.map a3) s (rd A (i : Int)).fto.toNat st.toNat) := inR_small ⟨by omega, by omega⟩
            rw [decide_eq_true d, cond_true, cond_true]
            repeat rw [gd gS]
            repeat rw [gd gT]
            repeat rw [gd gi]
            cases e : decide (sum + (rd A (i : Int)).fmost + BF.tab (A.map a3) s (rd A (i : Int)).fto.toNat st.toNat < 0) with
            | false =>
              repeat rw [cond_false]
              exact skip
            | true =>
              repeat rw [cond_true]
              repeat rw [cond_false]
              repeat rw [gd (show us.length + [(rd A (i : Int)).fuse].length ≤ lim by rw [List.length_singleton]; omega)]
              exact next _ _ _ _ _ ⟨by rw [List.length_append, List.length_singleton]; omega, by omega, s1, .inr rfl, by omega, by omega⟩
          · rw [decide_eq_false d]; repeat rw [cond_false]
            exact skip
def cl1 (L : List A3) (r i : Nat) : Bool := (List.range i).any fun v => decide (BF.tab L r v v < 0)
theorem cl1_succ (L : List A3) (r i : Nat) : cl1 L r (i + 1) = (cl1 L r i || decide (BF.tab L r i i < 0)) := by
  unfold cl1; rw [List.range_succ, List.any_append]; simp
theorem cl1_true {L : List A3} {r i v : Nat} (hv : v < i) (h : BF.tab L r v v < 0) : cl1 L r i = true := by
  unfold cl1; rw [List.any_eq_true]; exact ⟨v, List.mem_range.2 hv, decide_eq_true h⟩
theorem closed_eq {k : Nat} (hk : 200 ≤ k) {n : Nat} (hn : n ≤ 12) {L : List A3} {r : Nat} {T : List (List Int)} (hT : IsTab (n + 1) (BF.tab L r) T) : difference_closed k T = some (cl1 L r (n + 1)) := by
  have tl := hT.len
  unfold difference_closed
  refine (loop1_out (I := fun i => cl1 L r i = false) (P := fun _ b => b = cl1 L r (n + 1)) (n + 1) (fun hI rec => ?_) (fun i hi hI rec ih => ?_) k 0 (Nat.zero_le _) (by omega) rfl).eq
  · rw [difference_closed.b0, decide_eq_false (by omega), cond_false]; exact ⟨_, rfl, hI.symm⟩
  · have tr := hT.row i hi
    rw [difference_closed.b0, decide_eq_true (show (i : Int) < (T.length : Int) by omega), cond_true, gd ⟨by omega, by omega⟩, gd ⟨by omega, by omega⟩, hT.ent i i hi hi]
    by_cases c : BF.tab L r i i < 0
    · rw [decide_eq_true c, cond_true, cl1_true hi c]; exact ⟨_, rfl, rfl⟩
    · rw [decide_eq_false c, cond_false, gd (inR_nat (n := i) (by omega))]
      exact ih (by rw [cl1_succ, hI, decide_eq_false c]; rfl)
theorem tabs_next {n : Nat} {A : List Arc} {m : Nat} {X : List (List (List Int))} (hX : Tabs n A m X) {U : List (List Int)} (hU : IsTab (n + 1) (BF.tab (A.map a3) (m + 1)) U) : Tabs n A (m + 1) (X ++ [U]) := by
  have xl := hX.len
  refine ⟨by rw [List.length_append, xl]; rfl, fun r hr => ?_⟩
  by_cases c : r ≤ m
  · have e : rd (X ++ [U]) (r : Int) = rd X (r : Int) := by
      rw [rd_get1 (show r < (X ++ [U]).length by rw [List.length_append]; omega), rd_get1 (show r < X.length by omega)]
      rw [List.getElem_append_left (show r < X.length by omega)]
    rw [e]; exact hX.tab r c
  · obtain rfl : r = m + 1 := by omega
    have e : rd (X ++ [U]) ((m + 1 : Nat) : Int) = U := by
      rw [rd_get1 (show m + 1 < (X ++ [U]).length by rw [List.length_append]; simp; omega), List.getElem_append_right (by omega)]
      simp [xl]
    rw [e]; exact hU
theorem tables_two {k0 : Nat} (hk0 : 200 ≤ k0) {n : Nat} {A : List Arc} (ok : ArcsOk n A) {b v : Nat} (hb : b ≤ n + 1) (hv : v < n + 1) (hneg : BF.tab (A.map a3) b v v < 0) :
    ∀ (d m : Nat), m + d = b → ∀ (k : Nat), d < k → ∀ X, Tabs n A m X →
      ∃ r, loop1 k (difference_Refute.b0 k0 A) X = some r ∧ loop2 k (ref03_Refute.b0 k0 (n : Int) (A.map conv)) X (cl1 (A.map a3) m (n + 1)) = some r ∧ r.1.length ≤ 40 := by
  have lm : 5000 ≤ lim := by decide
  have n1 := ok.n1
  have exit : ∀ (m : Nat) X, m ≤ b → Tabs n A m X → cl1 (A.map a3) m (n + 1) = true → ∀ k, ∃ r, loop1 (k + 1) (difference_Refute.b0 k0 A) X = some r ∧ loop2 (k + 1) (ref03_Refute.b0 k0 (n : Int) (A.map conv)) X true = some r ∧ r.1.length ≤ 40 := fun m X hm hX hc k => by
    have xl := hX.len
    have e1 : (X.length : Int) - 1 = (m : Int) := by omega
    have e2 : (X.length : Int) - 2 = (m : Int) - 1 := by omega
    show ∃ r, difference_Refute.b0 k0 A (loop1 k _) X = some r ∧ ref03_Refute.b0 k0 (n : Int) (A.map conv) (loop2 k _) X true = some r ∧ r.1.length ≤ 40
    rw [difference_Refute.b0, ref03_Refute.b0, e1, e2, gd (show inR (m : Int) from inR_small ⟨by omega, by omega⟩), gd ⟨by omega, by omega⟩, closed_eq (by omega) n1 (hX.tab m (Nat.le_refl _)), Option.bind_some, hc, Bool.not_true, cond_false, cond_false, gd (show inR ((m : Int) - 1) from inR_small ⟨by omega, by omega⟩), gd (show inR ((m : Int) - 1) from inR_small ⟨by omega, by omega⟩)]
    exact trace_two ok hX (by omega) hk0 m (Nat.le_refl _) k0 (by omega) [] (-1) 0 (-1) 0 ⟨by show 0 + m ≤ 40; omega, by omega, by omega, .inl (by omega), by omega, by omega⟩
  intro d
  induction d with
  | zero =>
    intro m hmb k hk X hX
    obtain ⟨k', rfl⟩ : ∃ q, k = q + 1 := ⟨k - 1, by omega⟩
    obtain rfl : m = b := by omega
    have hc := cl1_true hv hneg
    rw [hc]
    exact exit m X (Nat.le_refl _) hX hc k'
  | succ d ih =>
    intro m hmb k hk X hX
    obtain ⟨k', rfl⟩ : ∃ q, k = q + 1 := ⟨k - 1, by omega⟩
    cases hc : cl1 (A.map a3) m (n + 1) with
    | true => exact exit m X (by omega) hX hc k'
    | false =>
      have xl := hX.len
      have e1 : (X.length : Int) - 1 = (m : Int) := by omega
      have gX : (0 : Int) ≤ (m : Int) ∧ (m : Int) < (X.length : Int) := ⟨by omega, by omega⟩
      have gm : inR (m : Int) := inR_small ⟨by omega, by omega⟩
      obtain ⟨U, eU, hU⟩ := longer_eq (k := k0) hk0 ok (show m ≤ 40 by omega) (hX.tab m (Nat.le_refl _))
      obtain ⟨U', eU', hU'⟩ := further_eq (k := k0) hk0 ok (show m ≤ 40 by omega) (hX.tab m (Nat.le_refl _))
      obtain rfl := hU.uniq hU'
      have ul := hU.len
      obtain ⟨r, h1, h2, h3⟩ := ih (m + 1) (by omega) k' (by omega) _ (tabs_next hX hU)
      refine ⟨r, ?_, ?_, h3⟩
      · show difference_Refute.b0 k0 A (loop1 k' _) X = some r
        rw [difference_Refute.b0, e1, gd gm, gd gX, closed_eq (by omega) n1 (hX.tab m (Nat.le_refl _)), Option.bind_some, hc, Bool.not_false, cond_true, gd gm, gd gX, eU, Option.bind_some, gd (show _ ≤ lim by rw [List.length_singleton]; omega)]
        exact h1
      · show ref03_Refute.b0 k0 (n : Int) (A.map conv) (loop2 k' _) X false = some r
        rw [ref03_Refute.b0, Bool.not_false, cond_true, e1, gd gm, gd gX, eU', Option.bind_some, gd (show _ ≤ lim by rw [List.length_singleton]; omega)]
        refine (loop2_out (P := fun _ _ q => q = r) (I := fun bb i => bb = cl1 (A.map a3) (m + 1) i) (n + 1) (fun bb hI rec => ?_) (fun bb i hi hI rec ihi => ?_) k0 0 _ (Nat.zero_le _) (by omega) rfl).eq
        · rw [ref03_Refute.b1, decide_eq_false (by omega), cond_false, hI]
          exact ⟨r, h2, rfl⟩
        · have ur := hU.row i hi
          rw [ref03_Refute.b1, decide_eq_true (show (i : Int) ≤ (n : Int) by omega), cond_true]
          unfold jn; dsimp only
          cases hb' : bb with
          | true =>
            rw [cond_true, gd (inR_nat (n := i) (by omega))]
            exact ihi _ (by rw [cl1_succ, ← hI, hb']; rfl)
          | false =>
            rw [cond_false, gd ⟨by omega, by omega⟩, gd ⟨by omega, by omega⟩, hU.ent i i hi hi, gd (inR_nat (n := i) (by omega))]
            exact ihi _ (by rw [cl1_succ, ← hI, hb']; rfl)
theorem Refute_two {k : Nat} (hk : 200 ≤ k) (n : Int) (l : List Test) : ∃ r, difference_Refute k n l = some r ∧ ref03_Refute k n l = some r ∧ r.1.length ≤ 40 := by
  unfold difference_Refute ref03_Refute
  rw [tests_eq hk, ref_tests_eq hk, Option.bind_some, Option.bind_some]
  cases c : (testsE n l != 0) with
  | true => exact ⟨_, rfl, rfl, Nat.zero_le _⟩
  | false =>
    have T := tests_ok (show testsE n l = 0 by simpa using c)
    obtain ⟨N, rfl⟩ : ∃ N : Nat, n = (N : Int) := ⟨n.toNat, by have := T.n0; omega⟩
    have n1 := T.n1; have hl := T.len
    have ok : ArcsOk N (arcsN l l.length) := ⟨by omega, by have := arcsN_len l l.length; omega, arcs_ok T⟩
    obtain ⟨r, r', e1, e2, e3, e4⟩ := distances_two hk T ok
    rw [cond_false, cond_false, arcs_eq hk T, Option.bind_some, e1, Option.bind_some, e2, Option.bind_some, ← e3]
    cases d : r.2 with
    | true => exact ⟨_, rfl, rfl, Nat.zero_le _⟩
    | false =>
      obtain ⟨F, eF, hF⟩ := fresh_eq (k := k) hk (n := N) (by omega)
      obtain ⟨F', eF', hF'⟩ := square_eq (k := k) hk (n := N) (by omega) 1125899906842624 0
      obtain rfl := hF.uniq hF'
      obtain ⟨b, v, -, hb, hv, hneg⟩ := neg_tab ok (e4 d)
      rw [cond_false, cond_false, ref_arcs_eq hk T, Option.bind_some, eF, eF', Option.bind_some, Option.bind_some]
      have t0 : Tabs N (arcsN l l.length) 0 [F] := ⟨rfl, fun q hq => by
        obtain rfl : q = 0 := by omega
        exact hF.congr fun _ _ _ _ => rfl⟩
      obtain ⟨q, h1, h2, h3⟩ := tables_two hk ok hb hv hneg b 0 (by omega) k (by omega) [F] t0
      have z : cl1 ((arcsN l l.length).map a3) 0 (N + 1) = false := by
        unfold cl1
        rw [List.any_eq_false]
        intro u _
        show ¬ decide (BF.tab _ 0 u u < 0) = true
        rw [decide_eq_true_eq]
        show ¬ (if u = u then (0 : Int) else far) < 0
        rw [if_pos rfl]; omega
      rw [z] at h2
      exact ⟨q, h1, h2, h3⟩
theorem Contradiction_two {k : Nat} (hk : 1000 ≤ k) {t : Types} {p : Pattern} (ht : FewT t) (hp : FewP p) : ∃ r, attribute_Contradiction k t p = some r ∧ ref21_Contradiction k t p = some r ∧ r.1.length ≤ 40 := by
  unfold attribute_Contradiction ref21_Contradiction
  rw [valid_eq hk ht hp, ref_valid_eq hk ht hp, Option.bind_some, Option.bind_some]
  cases c : (patE t p != 0) with
  | true => exact ⟨_, rfl, rfl, Nat.zero_le _⟩
  | false =>
    have P := pat_ok (show patE t p = 0 by simpa using c)
    obtain ⟨s, e1, e2, -⟩ := system_two hk (over_of ht P.val P.graph P.typed) P.slots P.tests
    obtain ⟨r, e3, e4, hr⟩ := Refute_two (k := k) (by omega) p.fVars s
    rw [cond_false, cond_false, e1, e2, Option.bind_some, Option.bind_some, e3, e4, Option.bind_some]
    exact ⟨_, rfl, rfl, hr⟩
theorem Equal_Use_self {k : Nat} (hk : 200 ≤ k) {l : List Use} (hl : l.length ≤ 40) : slices_Equal_Use k l l = some true := by
  unfold slices_Equal_Use
  rw [bne_self_eq_false, cond_false]
  refine loop1_eq (fun _ => true) l.length (fun rec => ?_) (fun i hi rec ih => ?_) (Nat.zero_le _) (by omega)
  · rw [slices_Equal_Use.b0, decide_eq_false (show ¬ (l.length : Int) < (l.length : Int) by omega), cond_false]
  · have gi : (0 : Int) ≤ (i : Int) ∧ (i : Int) < (l.length : Int) := ⟨by omega, by omega⟩
    rw [slices_Equal_Use.b0, decide_eq_true gi.2, cond_true, gd gi, gd gi, beq_self_eq_true, Bool.not_true, cond_false, gd (inR_nat (n := i) (by omega)), ih]
theorem law_valid21 {k : Nat} (hk : 6000 ≤ k) (aw : law21_awake k = some true) (t : Types) (p : Pattern) (hA : ∀ n ∈ t.fNodes, n.fAttrs.length ≤ 140737488351232) : law21_AttributeValid k t p = some true := by
  unfold law21_AttributeValid jn; dsimp only
  obtain ⟨b, e, hb⟩ := ref04_Few_out (k := k) (by omega) hA
  rw [aw, Option.bind_some, Bool.not_true, cond_false, e, Option.bind_some]
  cases b with
  | false => rfl
  | true =>
    have ht := hb rfl
    rw [Bool.not_true, cond_false, few21_eq, Option.bind_some]
    cases c : ((decide ((p.fGraph.fNodes.length : Int) ≤ 45) && decide ((p.fGraph.fEdges.length : Int) ≤ 90)) && (decide ((p.fSlots.length : Int) ≤ 15) && decide ((p.fTests.length : Int) ≤ 15))) with
    | false => rfl
    | true =>
      rw [Bool.and_eq_true, Bool.and_eq_true, Bool.and_eq_true, decide_eq_true_eq, decide_eq_true_eq, decide_eq_true_eq, decide_eq_true_eq] at c
      have hp : FewP p := ⟨⟨by omega, by omega⟩, by omega, by omega⟩
      obtain ⟨r, e1, e2, hr⟩ := Contradiction_two (k := k) (by omega) ht hp
      rw [Bool.not_true, cond_false, copied21 hp, Option.bind_some, e1, e2, Option.bind_some, Option.bind_some, Option.bind_some, valid_eq (by omega) ht hp, ref_valid_eq (by omega) ht hp, Option.bind_some, Option.bind_some, beq_self_eq_true, cond_true, beq_self_eq_true, cond_true, Equal_Use_self (by omega) hr, Option.bind_some]
end Go.Proofs.YtcgdfjpeboiioaaGreat
