import Derived.Test.YtcgdfjpeboiioaaGreatMtD
namespace Go.Proofs.YtcgdfjpeboiioaaGreat
open Go Go.Abs
def Out {R : Type} (x : Option R) (P : R → Prop) : Prop := ∃ r, x = some r ∧ P r
theorem Out.some {R : Type} {r : R} {P : R → Prop} (h : P r) : Out (some r) P := ⟨r, rfl, h⟩
theorem Out.bind {R S : Type} {x : Option R} {f : R → Option S} {P : R → Prop} {Q : S → Prop} (h : Out x P) (g : ∀ r, P r → Out (f r) Q) : Out (x.bind f) Q := by
  obtain ⟨r, rfl, hr⟩ := h; exact g r hr
theorem Out.eq {R : Type} {x : Option R} {r : R} (h : Out x (· = r)) : x = Option.some r := by obtain ⟨t, rfl, rfl⟩ := h; rfl
theorem Out.mono {R : Type} {x : Option R} {P Q : R → Prop} (h : Out x P) (g : ∀ r, P r → Q r) : Out x Q := by obtain ⟨r, e, hr⟩ := h; exact ⟨r, e, g r hr⟩
theorem gd {R : Type} {p : Prop} [Decidable p] (h : p) (x : Option R) : (if p then x else none) = x := if_pos h
theorem loop1_out {R : Type} {b : (Int → Option R) → Int → Option R} {I : Nat → Prop} {P : Nat → R → Prop} (n : Nat)
    (hend : I n → ∀ rec, Out (b rec (n : Int)) (P n))
    (hstep : ∀ i, i < n → I i → ∀ rec : Int → Option R, (I (i + 1) → Out (rec ((i : Int) + 1)) (P (i + 1))) → Out (b rec (i : Int)) (P i)) :
    ∀ k i : Nat, i ≤ n → n < k + i → I i → Out (loop1 k b (i : Int)) (P i)
  | 0, i, h, hk, _ => by omega
  | k + 1, i, h, hk, hi => by
    rcases Nat.lt_or_ge i n with hl | hl
    · refine hstep i hl hi _ fun hI => ?_
      have := loop1_out n hend hstep k (i + 1) hl (by omega) hI
      simpa using this
    · have : i = n := by omega
      subst this
      exact hend hi _
theorem loop1_eq {R : Type} {b : (Int → Option R) → Int → Option R} (F : Nat → R) (n : Nat)
    (hend : ∀ rec, b rec (n : Int) = some (F n))
    (hstep : ∀ i, i < n → ∀ rec : Int → Option R, rec ((i : Int) + 1) = some (F (i + 1)) → b rec (i : Int) = some (F i))
    {k i : Nat} (hi : i ≤ n) (hk : n < k + i) : loop1 k b (i : Int) = some (F i) :=
  (loop1_out (I := fun _ => True) (P := fun i r => r = F i) n (fun _ rec => ⟨_, hend rec, rfl⟩)
    (fun i hi _ rec h => ⟨_, hstep i hi rec (h trivial).eq, rfl⟩) k i hi hk trivial).eq
theorem loop2_out {S R : Type} {b : (S → Int → Option R) → S → Int → Option R} {P : S → Nat → R → Prop} {I : S → Nat → Prop} (n : Nat)
    (hend : ∀ s, I s n → ∀ rec, Out (b rec s (n : Int)) (P s n))
    (hstep : ∀ s i, i < n → I s i → ∀ rec : S → Int → Option R, (∀ s', I s' (i + 1) → Out (rec s' ((i : Int) + 1)) (P s' (i + 1))) → Out (b rec s (i : Int)) (P s i)) :
    ∀ (k i : Nat) (s : S), i ≤ n → n < k + i → I s i → Out (loop2 k b s (i : Int)) (P s i)
  | 0, i, s, h, hk, _ => by omega
  | k + 1, i, s, h, hk, hi => by
    rcases Nat.lt_or_ge i n with hl | hl
    · refine hstep s i hl hi _ fun s' hI => ?_
      have := loop2_out n hend hstep k (i + 1) s' hl (by omega) hI
      simpa using this
    · have : i = n := by omega
      subst this
      exact hend s hi _
def scanF (e : Nat → Int) : Nat → Nat → Int
  | _, 0 => 0
  | i, d + 1 => bif e i != 0 then e i else scanF e (i + 1) d
def scan (e : Nat → Int) (i n : Nat) : Int := scanF e i (n - i)
theorem scan_end {e : Nat → Int} {n : Nat} : scan e n n = 0 := by simp [scan, scanF]
theorem scan_step {e : Nat → Int} {i n : Nat} (h : i < n) : scan e i n = bif e i != 0 then e i else scan e (i + 1) n := by
  have : n - i = (n - (i + 1)) + 1 := by omega
  unfold scan; rw [this]; rfl
theorem scan_zero {e : Nat → Int} {n : Nat} : ∀ {i : Nat}, scan e i n = 0 → ∀ j, i ≤ j → j < n → e j = 0 := by
  intro i
  induction hd : n - i generalizing i with
  | zero => intro _ j h1 h2; omega
  | succ d ih =>
    intro h j h1 h2
    rw [scan_step (by omega)] at h
    by_cases he : e i = 0
    · rcases Nat.eq_or_lt_of_le h1 with rfl | h3
      · exact he
      · simp [he] at h
        exact ih (i := i + 1) (by omega) h j h3 h2
    · exfalso
      have : (e i != 0) = true := by simp [he]
      rw [this] at h; exact he h
def anyF (p : Nat → Bool) : Nat → Nat → Bool
  | _, 0 => false
  | i, d + 1 => p i || anyF p (i + 1) d
def anyN (p : Nat → Bool) (i n : Nat) : Bool := anyF p i (n - i)
theorem anyN_end {p : Nat → Bool} {n : Nat} : anyN p n n = false := by simp [anyN, anyF]
theorem anyN_step {p : Nat → Bool} {i n : Nat} (h : i < n) : anyN p i n = (p i || anyN p (i + 1) n) := by
  have : n - i = (n - (i + 1)) + 1 := by omega
  unfold anyN; rw [this]; rfl
theorem anyN_iff {p : Nat → Bool} {n : Nat} : ∀ {i : Nat}, anyN p i n = true ↔ ∃ j, i ≤ j ∧ j < n ∧ p j = true := by
  intro i
  induction hd : n - i generalizing i with
  | zero =>
    have : anyN p i n = false := by simp [anyN, anyF, hd]
    rw [this]; constructor
    · intro h; cases h
    · rintro ⟨j, h1, h2, _⟩; omega
  | succ d ih =>
    rw [anyN_step (by omega), Bool.or_eq_true, ih (i := i + 1) (by omega)]
    constructor
    · rintro (h | ⟨j, h1, h2, h3⟩)
      · exact ⟨i, Nat.le_refl _, by omega, h⟩
      · exact ⟨j, by omega, h2, h3⟩
    · rintro ⟨j, h1, h2, h3⟩
      rcases Nat.eq_or_lt_of_le h1 with rfl | h4
      · exact .inl h3
      · exact .inr ⟨j, h4, h2, h3⟩
theorem anyN_congr {p q : Nat → Bool} {i n : Nat} (h : ∀ j, i ≤ j → j < n → p j = q j) : anyN p i n = anyN q i n := by
  rw [Bool.eq_iff_iff, anyN_iff, anyN_iff]
  exact ⟨fun ⟨j, a, b, c⟩ => ⟨j, a, b, h j a b ▸ c⟩, fun ⟨j, a, b, c⟩ => ⟨j, a, b, (h j a b).symm ▸ c⟩⟩
theorem inR_of {x : Int} (h : -9223372036854775808 ≤ x ∧ x ≤ 9223372036854775807) : inR x := h
theorem inR_nat {n : Nat} (h : n ≤ 1000000) : inR ((n : Int) + 1) := by unfold inR; omega
theorem rd_take {α : Type} [Inhabited α] {l : List α} {i j : Nat} (h : j < i) : rd (l.take i) (j : Int) = rd l (j : Int) := by
  simp [rd, List.getD, List.getElem?_take, h]
theorem rd_mem {α : Type} [Inhabited α] {l : List α} {x : Int} (h0 : 0 ≤ x) (h : x < (l.length : Int)) : rd l x ∈ l := by
  have : x.toNat < l.length := by omega
  simp [rd, List.getD, List.getElem?_eq_getElem this]
def ixb {α : Type} [Inhabited α] (a0 : List α) (a1 : α → Option Bool) (rec0 : Int → Option Int) (x8 : Int) : Option Int :=
  (bif (decide (x8 < (a0.length : Int))) then (if (0 : Int) ≤ x8 ∧ x8 < (a0.length : Int) then ((a1 (rd a0 x8)).bind fun t32 => (bif t32 then (some x8) else (if inR (x8 + 1) then (rec0 (x8 + 1)) else none))) else none) else (some (-1)))
theorem ix_contains {α : Type} [Inhabited α] (l : List α) (f : α → Option Bool) (p : Nat → Bool) (k : Nat) (hk : l.length < k) (hl : l.length ≤ 1000000)
    (hf : ∀ j, j < l.length → f (rd l (j : Int)) = some (p j)) :
    ((loop1 k (ixb l f) 0).bind fun t => some (decide (t ≥ 0))) = some (anyN p 0 l.length) := by
  obtain ⟨r, e, h⟩ := loop1_out (I := fun _ => True) (P := fun i r => decide (r ≥ 0) = anyN p i l.length) (b := ixb l f) l.length
    (fun _ rec => ⟨-1, by simp [ixb], by rw [anyN_end]; decide⟩)
    (fun i hi _ rec ih => by
      rw [anyN_step hi]
      simp only [ixb, hf i hi, Option.bind_some]
      rw [gd (inR_nat (by omega)), gd (by omega)]
      have : decide ((i : Int) < (l.length : Int)) = true := by simp [hi]
      rw [this, cond_true]
      cases hp : p i with
      | true => exact ⟨_, rfl, by simp⟩
      | false => simpa using ih trivial)
    k 0 (Nat.zero_le _) (by omega) trivial
  have e' : loop1 k (ixb l f) 0 = some r := e
  rw [e', Option.bind_some, h]
theorem ContainsFunc_int {k : Nat} (l : List Int) (f : Int → Option Bool) (p : Nat → Bool) (hk : l.length < k) (hl : l.length ≤ 1000000)
    (hf : ∀ j, j < l.length → f (rd l (j : Int)) = some (p j)) : slices_ContainsFunc_int k l f = some (anyN p 0 l.length) := ix_contains l f p k hk hl hf
theorem ContainsFunc_Edge {k : Nat} (l : List Edge) (f : Edge → Option Bool) (p : Nat → Bool) (hk : l.length < k) (hl : l.length ≤ 1000000)
    (hf : ∀ j, j < l.length → f (rd l (j : Int)) = some (p j)) : slices_ContainsFunc_Edge k l f = some (anyN p 0 l.length) := ix_contains l f p k hk hl hf
theorem ContainsFunc_NodeType {k : Nat} (l : List NodeType) (f : NodeType → Option Bool) (p : Nat → Bool) (hk : l.length < k) (hl : l.length ≤ 1000000)
    (hf : ∀ j, j < l.length → f (rd l (j : Int)) = some (p j)) : slices_ContainsFunc_NodeType k l f = some (anyN p 0 l.length) := ix_contains l f p k hk hl hf
theorem ContainsFunc_Attr {k : Nat} (l : List Attr) (f : Attr → Option Bool) (p : Nat → Bool) (hk : l.length < k) (hl : l.length ≤ 1000000)
    (hf : ∀ j, j < l.length → f (rd l (j : Int)) = some (p j)) : slices_ContainsFunc_Attr k l f = some (anyN p 0 l.length) := ix_contains l f p k hk hl hf
theorem ContainsFunc_EdgeType {k : Nat} (l : List EdgeType) (f : EdgeType → Option Bool) (p : Nat → Bool) (hk : l.length < k) (hl : l.length ≤ 1000000)
    (hf : ∀ j, j < l.length → f (rd l (j : Int)) = some (p j)) : slices_ContainsFunc_EdgeType k l f = some (anyN p 0 l.length) := ix_contains l f p k hk hl hf
theorem Contains_string {k : Nat} (l : List Str) (a : Str) (hk : l.length < k) (hl : l.length ≤ 1000000) :
    slices_Contains_string k l a = some (anyN (fun j => a == rd l (j : Int)) 0 l.length) := ix_contains l (fun x => some (a == x)) _ k hk hl (fun _ _ => rfl)
theorem Contains_int {k : Nat} (l : List Int) (a : Int) (hk : l.length < k) (hl : l.length ≤ 1000000) :
    slices_Contains_int k l a = some (anyN (fun j => a == rd l (j : Int)) 0 l.length) := ix_contains l (fun x => some (a == x)) _ k hk hl (fun _ _ => rfl)
def letterB (c : Int) : Bool := (decide (c ≥ 97) && decide (c ≤ 122)) || (decide (c ≥ 65) && decide (c ≤ 90))
def digitB (c : Int) : Bool := decide (c ≥ 48) && decide (c ≤ 57)
def partB (c : Int) : Bool := (letterB c || digitB c) || c == 95
theorem token_letter_eq {k : Nat} (c : Int) : token_letter k c = some (letterB c) := by
  simp only [token_letter, jn, letterB]
  cases decide (c ≥ 97) <;> cases decide (c ≤ 122) <;> cases decide (c ≥ 65) <;> rfl
theorem ref01_letter_eq {k : Nat} (c : Int) : ref01_letter k c = some (letterB c) := by
  simp only [ref01_letter, jn, letterB]
  cases decide (c ≥ 97) <;> cases decide (c ≤ 122) <;> cases decide (c ≥ 65) <;> rfl
theorem token_digit_eq {k : Nat} (c : Int) : token_digit k c = some (digitB c) := by
  simp only [token_digit, jn, digitB]
  cases decide (c ≥ 48) <;> rfl
theorem ref01_digit_eq {k : Nat} (c : Int) : ref01_digit k c = some (digitB c) := by
  simp only [ref01_digit, jn, digitB]
  cases decide (c ≥ 48) <;> rfl
theorem token_part_eq {k : Nat} (c : Int) : token_part k c = some (partB c) := by
  simp only [token_part, jn, partB, token_letter_eq, token_digit_eq, Option.bind_some]
  cases letterB c <;> cases digitB c <;> rfl
theorem letter_not_digit {c : Int} (h : letterB c = true) : digitB c = false := by
  simp only [letterB, digitB, Bool.or_eq_true, Bool.and_eq_true, decide_eq_true_eq, Bool.and_eq_false_iff, decide_eq_false_iff_not] at *
  omega
def stopF (p : Nat → Bool) : Nat → Nat → Nat
  | i, 0 => i
  | i, d + 1 => bif p i then stopF p (i + 1) d else i
def stopN (p : Nat → Bool) (i n : Nat) : Nat := stopF p i (n - i)
theorem stopN_end {p : Nat → Bool} {n : Nat} : stopN p n n = n := by simp [stopN, stopF]
theorem stopN_step {p : Nat → Bool} {i n : Nat} (h : i < n) : stopN p i n = bif p i then stopN p (i + 1) n else i := by
  have : n - i = (n - (i + 1)) + 1 := by omega
  unfold stopN; rw [this]; rfl
theorem stopF_le {p : Nat → Bool} : ∀ {d i : Nat}, stopF p i d ≤ i + d
  | 0, i => by simp [stopF]
  | d + 1, i => by
    have := stopF_le (p := p) (d := d) (i := i + 1)
    unfold stopF; cases p i <;> simp <;> omega
theorem stopN_le {p : Nat → Bool} {n : Nat} : stopN p 0 n ≤ n := by have := stopF_le (p := p) (d := n) (i := 0); simpa [stopN] using this
theorem stopN_congr {p q : Nat → Bool} {n : Nat} : ∀ {i : Nat}, (∀ j, p j = q j) → stopN p i n = stopN q i n := by
  intro i h; have : p = q := funext h; rw [this]
theorem token_run_eq {k : Nat} (s : Str) (f : Int → Option Bool) (p : Nat → Bool) (hk : s.length < k) (hs : s.length ≤ 1000000)
    (hf : ∀ j, j < s.length → f (bt s (j : Int)) = some (p j)) : token_run k s f = some (stopN p 0 s.length : Int) := by
  refine loop1_eq (fun i => (stopN p i s.length : Int)) s.length (fun rec => ?_) (fun i hi rec ih => ?_) (Nat.zero_le _) (by omega)
  · simp [token_run.b0, jn, stopN_end]
  · rw [stopN_step hi]
    simp only [token_run.b0, jn, hf i hi, Option.bind_some]
    have : decide ((i : Int) < (s.length : Int)) = true := by simp [hi]
    rw [this, cond_true, gd (by omega), gd (inR_nat (by omega))]
    cases p i <;> simp [ih]
theorem ref01_run_eq {k : Nat} (s : Str) (dg : Bool) (hk : s.length < k) (hs : s.length ≤ 1000000) :
    ref01_run k s 0 dg = some (stopN (fun j => digitB (bt s (j : Int)) || (!dg && (letterB (bt s (j : Int)) || (bt s (j : Int)) == 95))) 0 s.length : Int) := by
  refine loop1_eq (fun i => (stopN _ i s.length : Int)) s.length (fun rec => ?_) (fun i hi rec ih => ?_) (Nat.zero_le _) (by omega)
  · simp only [ref01_run.b0, jn, stopN_end, Int.zero_add]
    rw [gd (inR_of (by omega))]
    simp
  · rw [stopN_step hi]
    have : decide ((i : Int) < (s.length : Int)) = true := by simp [hi]
    have h1 : inR (i : Int) := inR_of (by omega)
    have h2 : (0 : Int) ≤ (i : Int) ∧ (i : Int) < (s.length : Int) := by omega
    simp only [ref01_run.b0, jn, Int.zero_add, gd h1, gd h2, this, cond_true, ref01_digit_eq, ref01_letter_eq, Option.bind_some, gd (inR_nat (n := i) (by omega)), ih]
    cases digitB (bt s (i : Int)) <;> cases dg <;> cases letterB (bt s (i : Int)) <;> cases (bt s (i : Int) == 95) <;> rfl
def isNameB (s : Str) : Bool := (s != []) && (letterB (bt s 0) && (decide (stopN (fun j => partB (bt s (j : Int))) 0 s.length ≤ 20) && stopN (fun j => partB (bt s (j : Int))) 0 s.length == s.length))
theorem token_quoted_out {k : Nat} (s : Str) (h0 : 1 ≤ s.length) (hk : s.length < k) (hs : s.length ≤ 1000000) : Out (token_quoted k s) (fun _ => True) := by
  unfold token_quoted
  rw [gd (by omega)]
  have hd : (s.drop (1 : Int).toNat).length = s.length - 1 := by simp
  refine Out.bind (P := fun r => 0 ≤ r ∧ r ≤ (s.length : Int) - 1) ⟨_, token_run_eq (p := fun j => (decide (bt (s.drop (1 : Int).toNat) (j : Int) ≥ 32) && (decide (bt (s.drop (1 : Int).toNat) (j : Int) ≤ 126) && (bt (s.drop (1 : Int).toNat) (j : Int)) != 34))) _ _ (by omega) (by omega) (fun j _ => ?_), ?_⟩ fun r hr => ?_
  · simp only [token_quoted_1, jn]
    cases decide (bt (s.drop (1 : Int).toNat) (j : Int) ≥ 32) <;> cases decide (bt (s.drop (1 : Int).toNat) (j : Int) ≤ 126) <;> rfl
  · refine ⟨by omega, ?_⟩
    have h := stopN_le (p := fun j => (decide (bt (s.drop (1 : Int).toNat) (j : Int) ≥ 32) && (decide (bt (s.drop (1 : Int).toNat) (j : Int) ≤ 126) && (bt (s.drop (1 : Int).toNat) (j : Int)) != 34))) (n := (s.drop (1 : Int).toNat).length)
    rw [hd] at h ⊢
    omega
  · simp only [jn]
    rw [gd (inR_of (by omega))]
    cases hb : (1 + r == (s.length : Int)) with
    | true => exact ⟨_, rfl, trivial⟩
    | false =>
      have : 1 + r ≠ (s.length : Int) := by simpa using hb
      rw [cond_false, gd (inR_of (by omega)), gd (by omega)]
      cases (bt s (1 + r) != 34) with
      | true => exact ⟨_, rfl, trivial⟩
      | false =>
        rw [cond_false]
        cases decide (r > 60) with
        | true => exact ⟨_, rfl, trivial⟩
        | false => rw [cond_false, gd (inR_of (by omega))]; exact ⟨_, rfl, trivial⟩
theorem token_pair_out {k : Nat} (s : Str) (hk : 10 ≤ k) : Out (token_pair k s) (fun _ => True) := by
  unfold token_pair; simp only [jn]
  cases hb : decide ((s.length : Int) ≥ 2) with
  | false => exact ⟨_, rfl, trivial⟩
  | true =>
    simp at hb
    rw [cond_true, gd (by omega), Contains_string _ _ (by simp; omega) (by simp)]
    exact ⟨_, rfl, trivial⟩
theorem token_next_out {k : Nat} (s : Str) (h0 : 1 ≤ s.length) (hk : s.length < k) (hk' : 10 ≤ k) (hs : s.length ≤ 1000000) (hl : letterB (bt s 0) = false) :
    Out (token_next k s) (fun r => r.2.2 ≠ 0 ∨ r.1 ≠ 1) := by
  unfold token_next
  rw [gd (by omega), token_letter_eq, Option.bind_some, hl, cond_false, token_digit_eq, Option.bind_some]
  cases digitB (bt s 0) with
  | true =>
    rw [cond_true, token_run_eq (p := fun j => digitB (bt s (j : Int))) _ _ hk hs (fun j _ => token_digit_eq _), Option.bind_some]
    cases decide ((stopN (fun j => digitB (bt s (j : Int))) 0 s.length : Int) > 9)
    · exact ⟨_, rfl, .inr (by simp)⟩
    · exact ⟨_, rfl, .inl (by simp)⟩
  | false =>
    rw [cond_false]
    cases (bt s 0 == 34) with
    | true => rw [cond_true]; exact Out.bind (token_quoted_out s h0 hk hs) fun r _ => ⟨_, rfl, .inr (by simp)⟩
    | false =>
      rw [cond_false]
      refine Out.bind (token_pair_out s hk') fun r _ => ?_
      cases r with
      | true => exact ⟨_, rfl, .inr (by simp)⟩
      | false =>
        simp only [cond_false, strings_IndexByte, stringslite_IndexByte, Option.bind_some]
        generalize decide (_ ≥ (0 : Int)) = b
        cases b
        · exact ⟨_, rfl, .inl (by decide)⟩
        · exact ⟨_, rfl, .inr (by decide)⟩
theorem token_IsName_eq {k : Nat} (hk : 200 ≤ k) (s : Str) (hs : s.length ≤ 100) : token_IsName k s = some (isNameB s) := by
  unfold token_IsName token_whole jn; dsimp only
  rw [show ((1 : Int) == 3) = false from rfl, cond_false]
  cases s with
  | nil => simp [isNameB]
  | cons c t =>
    rw [show (((c :: t : Str) == ([] : Str))) = false from rfl, cond_false]
    generalize hS : (c :: t : Str) = s at *
    have h0 : 1 ≤ s.length := by subst hS; simp
    have hne : (s != []) = true := by subst hS; rfl
    cases hl : letterB (bt s 0) with
    | true =>
      unfold token_next
      rw [gd (by omega), token_letter_eq, Option.bind_some, hl, cond_true, token_run_eq (p := fun j => partB (bt s (j : Int))) _ _ (by omega) (by omega) (fun j _ => token_part_eq _), Option.bind_some]
      simp only [isNameB, hne, hl, Bool.true_and]
      by_cases hg : stopN (fun j => partB (bt s (j : Int))) 0 s.length ≤ 20
      · have h1 : decide ((stopN (fun j => partB (bt s (j : Int))) 0 s.length : Int) > 20) = false := by simp; omega
        rw [h1, cond_false, decide_eq_true hg]
        simp only [Option.bind_some, Bool.true_and, beq_self_eq_true, cond_true]
        congr 1
        rw [Bool.eq_iff_iff, beq_iff_eq, beq_iff_eq]; omega
      · have h1 : decide ((stopN (fun j => partB (bt s (j : Int))) 0 s.length : Int) > 20) = true := by simp; omega
        rw [h1, cond_true, decide_eq_false hg]
        rfl
    | false =>
      obtain ⟨r, e, h⟩ := token_next_out (k := k) s h0 (by omega) (by omega) (by omega) hl
      rw [e, Option.bind_some]
      simp only [isNameB, hne, hl, Bool.true_and, Bool.false_and]
      rcases h with h | h
      · have : (r.2.2 == 0) = false := by simp [h]
        rw [this]; rfl
      · have : (r.1 == 1) = false := by simp [h]
        rw [this]; cases (r.2.2 == 0) <;> rfl
theorem ref01_quoted_out {k : Nat} (s : Str) (h0 : 1 ≤ s.length) (hk : s.length < k) (hs : s.length ≤ 1000000) : Out (ref01_quoted k s 0) (fun r => r = 0 ∨ (2 ≤ r ∧ r ≤ (s.length : Int))) := by
  refine loop1_out (I := fun i => 1 ≤ i) (P := fun _ r => r = 0 ∨ (2 ≤ r ∧ r ≤ (s.length : Int))) s.length (fun _ rec => ?_) (fun i hi h1 rec ih => ?_) k 1 h0 (by omega) (by omega)
  · simp only [ref01_quoted.b0, jn, Int.zero_add]
    rw [gd (inR_of (by omega))]
    refine ⟨0, by simp, .inl rfl⟩
  · have : decide ((i : Int) < (s.length : Int)) = true := by simp [hi]
    have g1 : inR (i : Int) := inR_of (by omega)
    have g2 : (0 : Int) ≤ (i : Int) ∧ (i : Int) < (s.length : Int) := by omega
    simp only [ref01_quoted.b0, jn, Int.zero_add, gd g1, gd g2, this, cond_true, gd (inR_nat (n := i) (by omega))]
    cases (bt s (i : Int) == 34) with
    | true => exact ⟨_, rfl, .inr (by omega)⟩
    | false =>
      rw [cond_false]
      cases decide (bt s (i : Int) < 32) with
      | true => exact ⟨_, rfl, .inl rfl⟩
      | false =>
        cases decide (bt s (i : Int) > 126) with
        | true => exact ⟨_, rfl, .inl rfl⟩
        | false => exact ih (by omega)
theorem ref01_one_out {k : Nat} (s : Str) (h0 : 1 ≤ s.length) (hk : s.length < k) (hk' : 100 ≤ k) (hs : s.length ≤ 1000000) (hl : letterB (bt s 0) = false) :
    Out (ref01_one k s 0) (fun r => r.2.2 ≠ 0 ∨ r.1.fKind ≠ 1) := by
  unfold ref01_one; simp only [jn]
  rw [gd (by omega)]
  simp only [ref01_letter_eq, ref01_digit_eq, Option.bind_some, hl, cond_false]
  cases hd : digitB (bt s 0) with
  | true =>
    rw [cond_true, ref01_run_eq _ _ hk hs, Option.bind_some]
    have hle := stopN_le (p := fun j => digitB (bt s (j : Int)) || (!true && (letterB (bt s (j : Int)) || (bt s (j : Int)) == 95))) (n := s.length)
    generalize hn : stopN (fun j => digitB (bt s (j : Int)) || (!true && (letterB (bt s (j : Int)) || (bt s (j : Int)) == 95))) 0 s.length = n at *
    rw [cond_true]
    cases decide ((n : Int) > 9) with
    | true => exact ⟨_, rfl, .inl (by simp)⟩
    | false =>
      rw [cond_false, gd (inR_of (by omega)), gd (by omega)]
      exact ⟨_, rfl, .inr (by simp)⟩
  | false =>
    rw [cond_false]
    cases (bt s 0 == 34) with
    | true =>
      rw [cond_true]
      refine Out.bind (ref01_quoted_out s h0 hk hs) fun r hr => ?_
      cases hz : (r == 0) with
      | true => exact ⟨_, rfl, .inl (by simp)⟩
      | false =>
        have hz' : r ≠ 0 := by simpa using hz
        rw [cond_false, gd (inR_of (by omega))]
        cases decide (r - 2 > 60) with
        | true => exact ⟨_, rfl, .inl (by simp)⟩
        | false =>
          rw [cond_false, gd (inR_of (by omega)), gd (inR_of (by omega)), gd (inR_of (by omega)), gd (by omega)]
          exact ⟨_, rfl, .inr (by simp)⟩
    | false =>
      rw [cond_false, ref01_signs, Option.bind_some]
      generalize hL : ([([45, 62] : Str), ([60, 61] : Str), ([62, 61] : Str), ([61, 61] : Str), ([33, 61] : Str), ([123] : Str), ([125] : Str), ([40] : Str), ([41] : Str), ([91] : Str), ([93] : Str), ([44] : Str), ([59] : Str), ([58] : Str), ([61] : Str), ([43] : Str), ([45] : Str), ([42] : Str), ([60] : Str), ([62] : Str), ([33] : Str), ([38] : Str), ([124] : Str), ([46] : Str), ([63] : Str)] : List Str) = L
      have hLl : L.length = 25 := by subst hL; rfl
      have hLe : ∀ x ∈ L, x.length ≤ 2 := by subst hL; decide
      refine loop1_out (I := fun _ => True) (P := fun _ (r : Token × Int × Int) => r.2.2 ≠ 0 ∨ r.1.fKind ≠ 1) L.length (fun _ rec => ?_) (fun i hi h1 rec ih => ?_) k 0 (Nat.zero_le _) (by omega) trivial
      · exact ⟨(Token.mk 0 [] 0, 0, 2), by simp [ref01_one.b0], .inl (by simp)⟩
      · have : decide ((i : Int) < (L.length : Int)) = true := by simp [hi]
        have g2 : (0 : Int) ≤ (i : Int) ∧ (i : Int) < (L.length : Int) := by omega
        have g3 := hLe _ (rd_mem g2.1 g2.2)
        have g4 : inR ((rd L (i : Int)).length : Int) := inR_of (by omega)
        simp only [ref01_one.b0, jn, Int.zero_add, gd g2, this, cond_true, gd (inR_nat (n := i) (by omega)), gd g4]
        cases hb : decide (((rd L (i : Int)).length : Int) ≤ (s.length : Int)) with
        | false => rw [cond_false, cond_false]; exact ih trivial
        | true =>
          have hb' : ((rd L (i : Int)).length : Int) ≤ (s.length : Int) := by simpa using hb
          rw [cond_true, gd (by omega)]
          generalize (List.drop _ (s.take _) == rd L (i : Int)) = q
          cases q with
          | true => exact ⟨_, rfl, .inr (by simp)⟩
          | false => exact ih trivial
theorem ref01_IsName_eq {k : Nat} (hk : 200 ≤ k) (s : Str) (hs : s.length ≤ 100) : ref01_IsName k s = some (isNameB s) := by
  unfold ref01_IsName ref01_Right ref01_text
  rw [show ((1 : Int) == 3) = false from rfl, cond_false, Option.bind_some]
  cases s with
  | nil => simp [isNameB]
  | cons c t =>
    rw [show (((c :: t : Str) == ([] : Str))) = false from rfl, cond_false]
    generalize hS : (c :: t : Str) = s at *
    have h0 : 1 ≤ s.length := by subst hS; simp
    have hne : (s != []) = true := by subst hS; rfl
    cases hl : letterB (bt s 0) with
    | true =>
      unfold ref01_one; simp only [jn]
      rw [gd (by omega)]
      simp only [ref01_letter_eq, ref01_digit_eq, Option.bind_some, hl, cond_true, letter_not_digit hl, cond_false]
      rw [ref01_run_eq _ _ (by omega) (by omega), Option.bind_some]
      have hc := stopN_congr (p := fun j => digitB (bt s (j : Int)) || (!false && (letterB (bt s (j : Int)) || (bt s (j : Int)) == 95))) (q := fun j => partB (bt s (j : Int))) (n := s.length) (i := 0)
        (fun j => by simp only [partB]; cases digitB (bt s (j : Int)) <;> cases letterB (bt s (j : Int)) <;> rfl)
      rw [hc]
      have hle := stopN_le (p := fun j => partB (bt s (j : Int))) (n := s.length)
      simp only [isNameB, hne, hl, Bool.true_and]
      generalize stopN (fun j => partB (bt s (j : Int))) 0 s.length = n at *
      by_cases hg : n ≤ 20
      · have h1 : decide ((n : Int) > 20) = false := by simp; omega
        rw [h1, cond_false, decide_eq_true hg, gd (inR_of (by omega)), gd (by omega)]
        simp only [Option.bind_some, Bool.true_and, beq_self_eq_true, cond_true]
        have h2 : ((n : Int) == (s.length : Int)) = (n == s.length) := by rw [Bool.eq_iff_iff, beq_iff_eq, beq_iff_eq]; omega
        rw [h2]; cases (n == s.length) <;> rfl
      · have h1 : decide ((n : Int) > 20) = true := by simp; omega
        rw [h1, cond_true, decide_eq_false hg]
        rfl
    | false =>
      obtain ⟨r, e, h⟩ := ref01_one_out (k := k) s h0 (by omega) (by omega) (by omega) hl
      rw [e, Option.bind_some]
      simp only [jn, isNameB, hne, hl, Bool.true_and, Bool.false_and]
      rcases h with h | h
      · have : (r.2.2 == 0) = false := by simp [h]
        rw [this]; rfl
      · have : (r.1.fKind == 1) = false := by simp [h]
        rw [this]; cases (r.2.2 == 0) <;> cases (r.2.1 == (s.length : Int)) <;> rfl
structure FewA (x : Attr) : Prop where
  name : x.fName.length ≤ 40
  names : x.fNames.length ≤ 25
  each : ∀ s ∈ x.fNames, s.length ≤ 40
structure FewT (t : Types) : Prop where
  nodes : t.fNodes.length ≤ 20
  edges : t.fEdges.length ≤ 30
  nname : ∀ n ∈ t.fNodes, n.fName.length ≤ 40
  nattr : ∀ n ∈ t.fNodes, n.fAttrs.length ≤ 30
  attr : ∀ n ∈ t.fNodes, ∀ x ∈ n.fAttrs, FewA x
  ename : ∀ x ∈ t.fEdges, x.fName.length ≤ 40
def namesErr (l : List Str) (i : Nat) : Int := bif !isNameB (rd l (i : Int)) then 2 else bif anyN (fun j => rd l (j : Int) == rd l (i : Int)) 0 i then 5 else 0
def namesS (l : List Str) : Int := bif decide ((l.length : Int) > 20) then 3 else scan (namesErr l) 0 l.length
theorem types_names_eq {k : Nat} (hk : 200 ≤ k) (l : List Str) (hl : ∀ s ∈ l, s.length ≤ 100) : types_names k l = some (namesS l) := by
  unfold types_names namesS
  cases hb : decide ((l.length : Int) > 20) with
  | true => rfl
  | false =>
    simp at hb
    rw [cond_false, cond_false]
    refine loop1_eq (fun i => scan (namesErr l) i l.length) l.length (fun rec => ?_) (fun i hi rec ih => ?_) (Nat.zero_le _) (by omega)
    · simp [types_names.b0, scan_end]
    · rw [scan_step hi]
      have h1 : decide ((i : Int) < (l.length : Int)) = true := by simp [hi]
      have h2 : (0 : Int) ≤ (i : Int) ∧ (i : Int) < (l.length : Int) := by omega
      have h3 : (l.take (i : Int).toNat).length = i := by simp; omega
      have h4 := token_IsName_eq (k := k) hk (rd l (i : Int)) (hl _ (rd_mem h2.1 h2.2))
      have h5 := Contains_string (k := k) (l.take (i : Int).toNat) (rd l (i : Int)) (by omega) (by omega)
      rw [h3] at h5
      rw [anyN_congr (q := fun j => rd l (j : Int) == rd l (i : Int)) (fun j _ hj => by rw [show (i : Int).toNat = i from rfl, rd_take hj, Bool.beq_comm])] at h5
      simp only [types_names.b0, h1, cond_true, gd h2, h4, Option.bind_some, gd (show (0 : Int) ≤ (i : Int) ∧ (i : Int) ≤ (l.length : Int) by omega), h5, gd (inR_nat (n := i) (by omega)), ih, namesErr]
      cases isNameB (rd l (i : Int)) <;> cases anyN (fun j => rd l (j : Int) == rd l (i : Int)) 0 i <;> rfl
theorem ref04_names_eq {k : Nat} (hk : 200 ≤ k) (l : List Str) (hl : ∀ s ∈ l, s.length ≤ 100) : ref04_names k l = some (namesS l) := by
  unfold ref04_names namesS
  cases hb : decide ((l.length : Int) > 20) with
  | true => rfl
  | false =>
    simp at hb
    rw [cond_false, cond_false]
    refine loop1_eq (fun i => scan (namesErr l) i l.length) l.length (fun rec => ?_) (fun i hi rec ih => ?_) (Nat.zero_le _) (by omega)
    · simp only [ref04_names.b0, scan_end, show decide ((l.length : Int) < (l.length : Int)) = false by simp, cond_false]
    · rw [scan_step hi]
      have h1 : decide ((i : Int) < (l.length : Int)) = true := by simp [hi]
      have h2 : (0 : Int) ≤ (i : Int) ∧ (i : Int) < (l.length : Int) := by omega
      have h4 := ref01_IsName_eq (k := k) hk (rd l (i : Int)) (hl _ (rd_mem h2.1 h2.2))
      have h5 : loop1 k (ref04_names.b1 l (i : Int) rec) ((0 : Nat) : Int) = some (bif anyN (fun j => rd l (j : Int) == rd l (i : Int)) 0 i then 5 else scan (namesErr l) (i + 1) l.length) := by
        refine loop1_eq (fun j => bif anyN (fun j => rd l (j : Int) == rd l (i : Int)) j i then 5 else scan (namesErr l) (i + 1) l.length) i (fun rec1 => ?_) (fun j hj rec1 ih1 => ?_) (Nat.zero_le _) (by omega)
        · simp only [ref04_names.b1, anyN_end, cond_false, gd (inR_nat (n := i) (by omega)), ih, show decide ((i : Int) < (i : Int)) = false by simp]
        · rw [anyN_step hj, ref04_names.b1, show decide ((j : Int) < (i : Int)) = true by simp [hj], cond_true, gd (show (0 : Int) ≤ (j : Int) ∧ (j : Int) < (l.length : Int) by omega), gd h2, gd (inR_nat (n := j) (by omega)), ih1]
          cases (rd l (j : Int) == rd l (i : Int)) with
          | true => rw [cond_true, Bool.true_or, cond_true]
          | false => rw [cond_false, Bool.false_or]
      have h6 : loop1 k (ref04_names.b1 l (i : Int) rec) 0 = _ := h5
      simp only [ref04_names.b0, h1, cond_true, gd h2, h4, Option.bind_some, h6, namesErr]
      cases isNameB (rd l (i : Int)) <;> cases anyN (fun j => rd l (j : Int) == rd l (i : Int)) 0 i <;> simp
def attrOwn (x : Attr) : Int :=
  bif namesS x.fNames != 0 then namesS x.fNames
  else bif decide ((x.fNames.length : Int) > 0) then (bif x.fLow == 0 && x.fHigh == (x.fNames.length : Int) - 1 then 0 else 6)
  else (bif decide (-1000000 ≤ x.fLow) && (decide (x.fLow ≤ x.fHigh) && decide (x.fHigh ≤ 1000000)) then 0 else 6)
def attrErr (all : List Attr) (i : Nat) : Int :=
  bif !isNameB (rd all (i : Int)).fName then 2 else bif anyN (fun j => (rd all (j : Int)).fName == (rd all (i : Int)).fName) 0 i then 5 else attrOwn (rd all (i : Int))
theorem types_attribute_eq {k : Nat} (hk : 200 ≤ k) (all : List Attr) (i : Nat) (hi : i < all.length) (hl : all.length ≤ 100) (hf : FewA (rd all (i : Int))) :
    types_attribute k (rd all (i : Int)) (all.take (i : Int).toNat) = some (attrErr all i) := by
  have h3 : (all.take (i : Int).toNat).length = i := by simp; omega
  have h4 := token_IsName_eq (k := k) hk (rd all (i : Int)).fName (by have := hf.name; omega)
  have h5 := ContainsFunc_Attr (k := k) (all.take (i : Int).toNat) (fun x => types_attribute_1 k x (rd all (i : Int))) _ (by omega) (by omega) (fun j _ => rfl)
  rw [h3, anyN_congr (q := fun j => (rd all (j : Int)).fName == (rd all (i : Int)).fName) (fun j _ hj => by rw [show (i : Int).toNat = i from rfl, rd_take hj])] at h5
  have h6 := types_names_eq (k := k) hk (rd all (i : Int)).fNames (fun s hs => by have := hf.each s hs; omega)
  unfold types_attribute attrErr attrOwn
  rw [h4, Option.bind_some, h5, Option.bind_some, h6, Option.bind_some]
  generalize rd all (i : Int) = x at *
  have hn := hf.names
  cases isNameB x.fName with
  | false => rfl
  | true =>
    cases anyN (fun j => (rd all (j : Int)).fName == x.fName) 0 i with
    | true => rfl
    | false =>
      cases hz : namesS x.fNames != 0 with
      | true => rfl
      | false =>
        simp only [jn, Bool.not_true, cond_false]
        cases decide ((x.fNames.length : Int) > 0) with
        | true =>
          simp only [cond_true, gd (inR_of (x := (x.fNames.length : Int) - 1) (by omega))]
          cases decide (-1000000 ≤ x.fLow) <;> cases decide (x.fLow ≤ x.fHigh) <;> cases (x.fLow == 0) <;> cases (x.fHigh == (x.fNames.length : Int) - 1) <;> rfl
        | false =>
          cases decide (-1000000 ≤ x.fLow) <;> cases decide (x.fLow ≤ x.fHigh) <;> cases decide (x.fHigh ≤ 1000000) <;> rfl
theorem ref04_in_eq {k : Nat} (a b c : Int) : ref04_in k a b c = some (decide (a ≥ b) && decide (a ≤ c)) := by
  simp only [ref04_in, jn]; cases decide (a ≥ b) <;> rfl
theorem ref04_attribute_eq {k : Nat} (hk : 200 ≤ k) (x : Attr) (hf : FewA x) : ref04_attribute k x = some (attrOwn x) := by
  have h6 := ref04_names_eq (k := k) hk x.fNames (fun s hs => by have := hf.each s hs; omega)
  unfold ref04_attribute attrOwn
  simp only [h6, jn, ref04_in_eq, Option.bind_some]
  have hn := hf.names
  cases hz : ((x.fNames.length : Int) == 0) with
  | true =>
    have hz' : x.fNames = [] := by
      have : (x.fNames.length : Int) = 0 := by simpa using hz
      exact List.length_eq_zero_iff.1 (by omega)
    rw [hz']
    have : namesS [] = 0 := rfl
    rw [this]
    simp only [bne_self_eq_false, cond_false, cond_true, List.length_nil]
    rw [show decide ((((0 : Nat) : Int)) > 0) = false from rfl, cond_false]
    by_cases h1 : -1000000 ≤ x.fLow <;> by_cases h2 : x.fLow ≤ 1000000 <;> by_cases h3 : x.fLow ≤ x.fHigh <;> by_cases h4 : x.fHigh ≤ 1000000 <;> simp [h1, h2, h3, h4] <;> omega
  | false =>
    have hz' : (x.fNames.length : Int) ≠ 0 := by simpa using hz
    rw [cond_false, decide_eq_true (show (x.fNames.length : Int) > 0 by omega), cond_true, gd (inR_of (x := (x.fNames.length : Int) - 1) (by omega))]
    cases (namesS x.fNames != 0) with
    | true => rfl
    | false =>
      simp only [cond_false, bne]
      cases (x.fLow == 0) <;> cases (x.fHigh == (x.fNames.length : Int) - 1) <;> rfl
def attrsS (ns : List NodeType) : Nat → Int → List Attr
  | 0, _ => []
  | d + 1, a => bif decide (a < 0) then [] else attrsS ns d (rd ns a).fParent ++ (rd ns a).fAttrs
def WfP (ns : List NodeType) (n : Nat) : Prop := n ≤ ns.length ∧ ∀ j : Nat, j < n → -1 ≤ (rd ns (j : Int)).fParent ∧ (rd ns (j : Int)).fParent < (j : Int)
theorem attrsS_neg {ns : List NodeType} {d : Nat} {a : Int} (h : a < 0) : attrsS ns d a = [] := by cases d <;> simp [attrsS, h]
theorem attrsS_pos {ns : List NodeType} {d : Nat} {a : Int} (h : 0 ≤ a) : attrsS ns (d + 1) a = attrsS ns d (rd ns a).fParent ++ (rd ns a).fAttrs := by
  have : decide (a < 0) = false := by simp; omega
  simp [attrsS, this]
theorem wf_at {ns : List NodeType} {n : Nat} (w : WfP ns n) {a : Int} (h0 : 0 ≤ a) (h : a < (n : Int)) : -1 ≤ (rd ns a).fParent ∧ (rd ns a).fParent < a := by
  have := w.2 a.toNat (by omega)
  rwa [Int.toNat_of_nonneg h0] at this
theorem attrsS_len {ns : List NodeType} {n : Nat} (w : WfP ns n) (hn : ∀ x ∈ ns, x.fAttrs.length ≤ 30) : ∀ (d : Nat) (a : Int), a < (n : Int) → (attrsS ns d a).length ≤ 30 * d
  | 0, _, _ => by simp [attrsS]
  | d + 1, a, h => by
    rcases Int.lt_or_le a 0 with ha | ha
    · rw [attrsS_neg ha]; simp
    · have hw := wf_at w ha h
      have hm := hn _ (rd_mem (l := ns) ha (by have := w.1; omega))
      have ih := attrsS_len w hn d (rd ns a).fParent (by omega)
      rw [attrsS_pos ha, List.length_append]
      omega
theorem attrsS_all {ns : List NodeType} {n : Nat} {G : Attr → Prop} (w : WfP ns n) (hn : ∀ x ∈ ns, ∀ a ∈ x.fAttrs, G a) : ∀ (d : Nat) (a : Int), a < (n : Int) → ∀ x ∈ attrsS ns d a, G x
  | 0, _, _ => by simp [attrsS]
  | d + 1, a, h => by
    rcases Int.lt_or_le a 0 with ha | ha
    · rw [attrsS_neg ha]; simp
    · have hw := wf_at w ha h
      have ih := attrsS_all w hn d (rd ns a).fParent (by omega)
      rw [attrsS_pos ha]
      intro x hx
      rcases List.mem_append.1 hx with hx | hx
      · exact ih x hx
      · exact hn _ (rd_mem (l := ns) ha (by have := w.1; omega)) x hx
theorem types_attrs_eq {t : Types} {n : Nat} (w : WfP t.fNodes n) (hn : ∀ x ∈ t.fNodes, x.fAttrs.length ≤ 30) : ∀ (d k : Nat) (a : Int), d ≤ 1000 → d ≤ k → 0 ≤ a → a < (d : Int) → a < (n : Int) →
    types_attrs k t a = some (attrsS t.fNodes d a)
  | 0, _, _, _, _, h0, h1, _ => by omega
  | d + 1, 0, _, _, hk, _, _, _ => by omega
  | d + 1, k + 1, a, hd, hk, h0, h1, h2 => by
    have hw := wf_at w h0 h2
    have g : (0 : Int) ≤ a ∧ a < (t.fNodes.length : Int) := ⟨h0, by have := w.1; omega⟩
    have hm := hn _ (rd_mem g.1 g.2)
    have hl := attrsS_len w hn d (rd t.fNodes a).fParent (by omega)
    rw [attrsS_pos h0]
    unfold types_attrs types_attrs.main
    simp only [jn, gd g]
    cases hp : decide ((rd t.fNodes a).fParent ≥ 0) with
    | true =>
      have hp' : (rd t.fNodes a).fParent ≥ 0 := by simpa using hp
      rw [cond_true, types_attrs_eq w hn d k _ (by omega) (by omega) hp' (by omega) (by omega), Option.bind_some, gd (by unfold lim; omega)]
    | false =>
      have hp' : (rd t.fNodes a).fParent < 0 := by have : ¬ (rd t.fNodes a).fParent ≥ 0 := by simpa using hp
                                                   omega
      rw [cond_false, attrsS_neg hp', gd (by simp [lim]; omega)]
theorem ref04_attrs_eq {t : Types} {n : Nat} (w : WfP t.fNodes n) (hn : ∀ x ∈ t.fNodes, x.fAttrs.length ≤ 30) : ∀ (d k : Nat) (a : Int), d ≤ 1000 → d < k → a < (d : Int) → a < (n : Int) →
    ref04_attrs k t a = some (attrsS t.fNodes d a)
  | d, 0, _, _, hk, _, _ => by omega
  | 0, k + 1, a, _, _, h1, _ => by
    unfold ref04_attrs ref04_attrs.main
    rw [decide_eq_true (show a < 0 by omega)]; rfl
  | d + 1, k + 1, a, hd, hk, h1, h2 => by
    unfold ref04_attrs ref04_attrs.main
    rcases Int.lt_or_le a 0 with ha | ha
    · rw [decide_eq_true ha, attrsS_neg ha]; rfl
    · have hw := wf_at w ha h2
      have g : (0 : Int) ≤ a ∧ a < (t.fNodes.length : Int) := ⟨ha, by have := w.1; omega⟩
      have hm := hn _ (rd_mem g.1 g.2)
      have hl := attrsS_len w hn d (rd t.fNodes a).fParent (by omega)
      rw [decide_eq_false (show ¬ a < 0 by omega), cond_false, attrsS_pos ha, gd g, ref04_attrs_eq w hn d k _ (by omega) (by omega) (by omega) (by omega), Option.bind_some, gd (by unfold lim; omega), gd g, gd (by unfold lim; omega)]
def nodeErr (t : Types) (i : Nat) : Int :=
  bif !isNameB (rd t.fNodes (i : Int)).fName then 2
  else bif anyN (fun j => (rd t.fNodes (j : Int)).fName == (rd t.fNodes (i : Int)).fName) 0 i then 5
  else bif decide ((rd t.fNodes (i : Int)).fParent < -1) || decide ((rd t.fNodes (i : Int)).fParent ≥ (i : Int)) then 6
  else bif decide (((rd t.fNodes (i : Int)).fAttrs.length : Int) > 4) then 3
  else bif decide (((attrsS t.fNodes 100 (i : Int)).length : Int) > 8) then 3
  else scan (attrErr (attrsS t.fNodes 100 (i : Int))) ((attrsS t.fNodes 100 (i : Int)).length - (rd t.fNodes (i : Int)).fAttrs.length) (attrsS t.fNodes 100 (i : Int)).length
theorem wf_succ {ns : List NodeType} {i : Nat} (w : WfP ns i) (hi : i < ns.length) (h : -1 ≤ (rd ns (i : Int)).fParent ∧ (rd ns (i : Int)).fParent < (i : Int)) : WfP ns (i + 1) :=
  ⟨hi, fun j hj => by rcases Nat.lt_succ_iff_lt_or_eq.1 hj with hj | rfl
                      · exact w.2 j hj
                      · exact h⟩
theorem nodeErr_wf {t : Types} {i : Nat} (w : WfP t.fNodes i) (hi : i < t.fNodes.length) (h : nodeErr t i = 0) : WfP t.fNodes (i + 1) := by
  refine wf_succ w hi ?_
  unfold nodeErr at h
  cases h1 : isNameB (rd t.fNodes (i : Int)).fName
  · rw [h1] at h; simp at h
  cases h2 : anyN (fun j => (rd t.fNodes (j : Int)).fName == (rd t.fNodes (i : Int)).fName) 0 i
  · rw [h1, h2] at h
    simp only [Bool.not_true, cond_false] at h
    cases hp : decide ((rd t.fNodes (i : Int)).fParent < -1) || decide ((rd t.fNodes (i : Int)).fParent ≥ (i : Int)) with
    | true => rw [hp] at h; simp at h
    | false =>
      simp only [Bool.or_eq_false_iff, decide_eq_false_iff_not] at hp
      omega
  · rw [h1, h2] at h; simp at h
theorem types_node_eq {k : Nat} (hk : 200 ≤ k) {t : Types} (ht : FewT t) {i : Nat} (hi : i < t.fNodes.length) (w : WfP t.fNodes i) : types_node k t (i : Int) = some (nodeErr t i) := by
  have h20 := ht.nodes
  have h1 : (0 : Int) ≤ (i : Int) ∧ (i : Int) < (t.fNodes.length : Int) := by omega
  have hm := rd_mem h1.1 h1.2
  have h3 : (t.fNodes.take (i : Int).toNat).length = i := by simp; omega
  have h4 := token_IsName_eq (k := k) hk (rd t.fNodes (i : Int)).fName (by have := ht.nname _ hm; omega)
  have h5 := ContainsFunc_NodeType (k := k) (t.fNodes.take (i : Int).toNat) (fun x => types_node_1 k x (rd t.fNodes (i : Int))) _ (by omega) (by omega) (fun j _ => rfl)
  rw [h3, anyN_congr (q := fun j => (rd t.fNodes (j : Int)).fName == (rd t.fNodes (i : Int)).fName) (fun j _ hj => by rw [show (i : Int).toNat = i from rfl, rd_take hj])] at h5
  unfold types_node nodeErr
  rw [gd h1, h4, Option.bind_some]
  cases isNameB (rd t.fNodes (i : Int)).fName with
  | false => rfl
  | true =>
    rw [Bool.not_true, cond_false, cond_false, gd (by omega), h5, Option.bind_some]
    cases anyN (fun j => (rd t.fNodes (j : Int)).fName == (rd t.fNodes (i : Int)).fName) 0 i with
    | true => rfl
    | false =>
      simp only [cond_false, jn]
      cases hp1 : decide ((rd t.fNodes (i : Int)).fParent < -1) with
      | true => rfl
      | false =>
        cases hp2 : decide ((rd t.fNodes (i : Int)).fParent ≥ (i : Int)) with
        | true => rfl
        | false =>
          simp only [decide_eq_false_iff_not] at hp1 hp2
          have w' := wf_succ w hi (by omega)
          have ha := types_attrs_eq w' ht.nattr 100 k (i : Int) (by omega) (by omega) (by omega) (by omega) (by omega)
          have hall := attrsS_all w' ht.attr 100 (i : Int) (by omega)
          have hlen : (rd t.fNodes (i : Int)).fAttrs.length ≤ (attrsS t.fNodes 100 (i : Int)).length := by rw [attrsS_pos (by omega)]; simp
          rw [ha, Option.bind_some]
          generalize attrsS t.fNodes 100 (i : Int) = all at *
          simp only [Bool.or_false, cond_false]
          cases decide (((rd t.fNodes (i : Int)).fAttrs.length : Int) > 4) with
          | true => rfl
          | false =>
            cases h8 : decide ((all.length : Int) > 8) with
            | true => rfl
            | false =>
              simp at h8
              rw [cond_false, cond_false, gd (inR_of (by omega)), show ((all.length : Int) - ((rd t.fNodes (i : Int)).fAttrs.length : Int)) = ((all.length - (rd t.fNodes (i : Int)).fAttrs.length : Nat) : Int) by omega]
              refine loop1_eq (fun j => scan (attrErr all) j all.length) all.length (fun rec => ?_) (fun j hj rec ih => ?_) (by omega) (by omega)
              · simp [types_node.b0, scan_end]
              · rw [scan_step hj]
                have g2 : (0 : Int) ≤ (j : Int) ∧ (j : Int) < (all.length : Int) := by omega
                have h7 := types_attribute_eq (k := k) hk all j hj (by omega) (hall _ (rd_mem g2.1 g2.2))
                simp only [types_node.b0, show decide ((j : Int) < (all.length : Int)) = true by simp [hj], cond_true, gd g2, gd (show (0 : Int) ≤ (j : Int) ∧ (j : Int) ≤ (all.length : Int) by omega), h7, Option.bind_some, gd (inR_nat (n := j) (by omega)), ih]
                cases (attrErr all j != 0) <;> rfl
theorem ref04_node_eq {k : Nat} (hk : 200 ≤ k) {t : Types} (ht : FewT t) {i : Nat} (hi : i < t.fNodes.length) (w : WfP t.fNodes i) : ref04_node k t (i : Int) = some (nodeErr t i) := by
  have h20 := ht.nodes
  have h1 : (0 : Int) ≤ (i : Int) ∧ (i : Int) < (t.fNodes.length : Int) := by omega
  have hm := rd_mem h1.1 h1.2
  have h4 := ref01_IsName_eq (k := k) hk (rd t.fNodes (i : Int)).fName (by have := ht.nname _ hm; omega)
  unfold ref04_node nodeErr
  rw [gd h1, h4, Option.bind_some]
  cases isNameB (rd t.fNodes (i : Int)).fName with
  | false => rfl
  | true =>
    rw [Bool.not_true, cond_false, cond_false, show (0 : Int) = ((0 : Nat) : Int) from rfl]
    generalize hE : (bif decide ((rd t.fNodes (i : Int)).fParent < -1) || decide ((rd t.fNodes (i : Int)).fParent ≥ (i : Int)) then (6 : Int)
      else bif decide (((rd t.fNodes (i : Int)).fAttrs.length : Int) > 4) then 3
      else bif decide (((attrsS t.fNodes 100 (i : Int)).length : Int) > 8) then 3
      else scan (attrErr (attrsS t.fNodes 100 (i : Int))) ((attrsS t.fNodes 100 (i : Int)).length - (rd t.fNodes (i : Int)).fAttrs.length) (attrsS t.fNodes 100 (i : Int)).length) = E
    refine loop1_eq (fun j => bif anyN (fun j => (rd t.fNodes (j : Int)).fName == (rd t.fNodes (i : Int)).fName) j i then 5 else E) i (fun rec => ?_) (fun j hj rec ih => ?_) (Nat.zero_le _) (by omega)
    · rw [anyN_end, cond_false]
      simp only [ref04_node.b0, show decide ((i : Int) < (i : Int)) = false by simp, cond_false, gd (inR_of (x := (i : Int) - 1) (by omega)), ref04_in_eq, Option.bind_some, jn]
      subst hE
      by_cases hp1 : (rd t.fNodes (i : Int)).fParent < -1
      · rw [decide_eq_true hp1, decide_eq_false (show ¬ (rd t.fNodes (i : Int)).fParent ≥ -1 by omega)]; rfl
      by_cases hp2 : (rd t.fNodes (i : Int)).fParent ≥ (i : Int)
      · rw [decide_eq_true hp2, decide_eq_false hp1, decide_eq_false (show ¬ (rd t.fNodes (i : Int)).fParent ≤ (i : Int) - 1 by omega), Bool.and_false]; rfl
      have w' := wf_succ w hi (by omega)
      have ha := ref04_attrs_eq w' ht.nattr 100 k (i : Int) (by omega) (by omega) (by omega) (by omega)
      have hall := attrsS_all w' ht.attr 100 (i : Int) (by omega)
      have hlen : (rd t.fNodes (i : Int)).fAttrs.length ≤ (attrsS t.fNodes 100 (i : Int)).length := by rw [attrsS_pos (by omega)]; simp
      rw [ha, Option.bind_some, decide_eq_false hp1, decide_eq_false hp2, decide_eq_true (show (rd t.fNodes (i : Int)).fParent ≥ -1 by omega), decide_eq_true (show (rd t.fNodes (i : Int)).fParent ≤ (i : Int) - 1 by omega)]
      generalize attrsS t.fNodes 100 (i : Int) = all at *
      simp only [Bool.or_false, Bool.and_true, Bool.not_true, cond_false]
      cases decide (((rd t.fNodes (i : Int)).fAttrs.length : Int) > 4) with
      | true => rfl
      | false =>
        cases h8 : decide ((all.length : Int) > 8) with
        | true => rfl
        | false =>
          simp at h8
          rw [cond_false, cond_false, cond_false, cond_false, gd (inR_of (by omega)), show ((all.length : Int) - ((rd t.fNodes (i : Int)).fAttrs.length : Int)) = ((all.length - (rd t.fNodes (i : Int)).fAttrs.length : Nat) : Int) by omega]
          refine loop1_eq (fun j => scan (attrErr all) j all.length) all.length (fun rec => ?_) (fun j hj rec ih => ?_) (by omega) (by omega)
          · simp [ref04_node.b1, scan_end]
          · rw [scan_step hj]
            have g2 : (0 : Int) ≤ (j : Int) ∧ (j : Int) < (all.length : Int) := by omega
            have hfa := hall _ (rd_mem g2.1 g2.2)
            have h7 := ref04_attribute_eq (k := k) hk _ hfa
            have h8 := ref01_IsName_eq (k := k) hk (rd all (j : Int)).fName (by have := hfa.name; omega)
            have h9 : loop1 k (ref04_node.b2 k all (j : Int) rec) ((0 : Nat) : Int) = some (bif anyN (fun m => (rd all (m : Int)).fName == (rd all (j : Int)).fName) 0 j then 5 else bif attrOwn (rd all (j : Int)) != 0 then attrOwn (rd all (j : Int)) else scan (attrErr all) (j + 1) all.length) := by
              refine loop1_eq (fun m => bif anyN (fun m => (rd all (m : Int)).fName == (rd all (j : Int)).fName) m j then 5 else bif attrOwn (rd all (j : Int)) != 0 then attrOwn (rd all (j : Int)) else scan (attrErr all) (j + 1) all.length) j (fun rec1 => ?_) (fun m hm rec1 ih1 => ?_) (Nat.zero_le _) (by omega)
              · simp only [ref04_node.b2, anyN_end, cond_false, gd g2, h7, Option.bind_some, gd (inR_nat (n := j) (by omega)), ih, show decide ((j : Int) < (j : Int)) = false by simp]
                cases (attrOwn (rd all (j : Int)) != 0) <;> rfl
              · rw [anyN_step hm]
                simp only [ref04_node.b2, show decide ((m : Int) < (j : Int)) = true by simp [hm], cond_true, gd g2, gd (show (0 : Int) ≤ (m : Int) ∧ (m : Int) < (all.length : Int) by omega), gd (inR_nat (n := m) (by omega)), ih1]
                cases ((rd all (m : Int)).fName == (rd all (j : Int)).fName) <;> rfl
            have h10 : loop1 k (ref04_node.b2 k all (j : Int) rec) 0 = _ := h9
            simp only [ref04_node.b1, show decide ((j : Int) < (all.length : Int)) = true by simp [hj], cond_true, gd g2, h8, Option.bind_some, h10, attrErr]
            cases isNameB (rd all (j : Int)).fName <;> cases anyN (fun m => (rd all (m : Int)).fName == (rd all (j : Int)).fName) 0 j <;> rfl
    · rw [anyN_step hj]
      simp only [ref04_node.b0, show decide ((j : Int) < (i : Int)) = true by simp [hj], cond_true, gd (show (0 : Int) ≤ (j : Int) ∧ (j : Int) < (t.fNodes.length : Int) by omega), gd (inR_nat (n := j) (by omega)), ih]
      cases ((rd t.fNodes (j : Int)).fName == (rd t.fNodes (i : Int)).fName) <;> rfl
def boundB (a b : Int) : Bool := decide (a ≥ 0) && (decide (a ≤ 40) && (b == -1 || (decide (b ≥ a) && decide (b ≤ 40))))
theorem types_bounded_eq {k : Nat} (a b : Int) : types_bounded k a b = some (boundB a b) := by
  simp only [types_bounded, jn, boundB]
  cases decide (a ≥ 0) <;> cases decide (a ≤ 40) <;> cases (b == -1) <;> cases decide (b ≥ a) <;> rfl
theorem ref04_bound_eq {k : Nat} (a b : Int) : ref04_bound k a b = some (boundB a b) := by
  simp only [ref04_bound, jn, boundB, ref04_in_eq, Option.bind_some]
  cases decide (a ≥ 0) <;> cases decide (a ≤ 40) <;> cases (b == -1) <;> cases decide (b ≥ a) <;> rfl
def insB (a : Int) (t : Types) : Bool := decide (a ≥ 0) && decide (a < (t.fNodes.length : Int))
theorem types_edge_1_eq {k : Nat} (a : Int) (t : Types) : types_edge_1 k a t = some (insB a t) := by
  simp only [types_edge_1, jn, insB]
  cases decide (a ≥ 0) <;> rfl
theorem ins_eq (a : Int) (t : Types) : (decide (a ≥ 0) && decide (a ≤ (t.fNodes.length : Int) - 1)) = insB a t := by
  unfold insB; rw [Bool.eq_iff_iff]; simp; omega
def edgeErr (t : Types) (i : Nat) : Int :=
  bif !isNameB (rd t.fEdges (i : Int)).fName then 2
  else bif anyN (fun j => (rd t.fEdges (j : Int)).fName == (rd t.fEdges (i : Int)).fName) 0 i then 5
  else bif insB (rd t.fEdges (i : Int)).fFrom t && (insB (rd t.fEdges (i : Int)).fTo t && (boundB (rd t.fEdges (i : Int)).fOutLow (rd t.fEdges (i : Int)).fOutHigh && boundB (rd t.fEdges (i : Int)).fInLow (rd t.fEdges (i : Int)).fInHigh)) then 0 else 6
theorem types_edge_eq {k : Nat} (hk : 200 ≤ k) {t : Types} (ht : FewT t) {i : Nat} (hi : i < t.fEdges.length) : types_edge k t (i : Int) = some (edgeErr t i) := by
  have h20 := ht.edges
  have h1 : (0 : Int) ≤ (i : Int) ∧ (i : Int) < (t.fEdges.length : Int) := by omega
  have hm := rd_mem h1.1 h1.2
  have h3 : (t.fEdges.take (i : Int).toNat).length = i := by simp; omega
  have h4 := token_IsName_eq (k := k) hk (rd t.fEdges (i : Int)).fName (by have := ht.ename _ hm; omega)
  have h5 := ContainsFunc_EdgeType (k := k) (t.fEdges.take (i : Int).toNat) (fun x => types_edge_2 k x (rd t.fEdges (i : Int))) _ (by omega) (by omega) (fun j _ => rfl)
  rw [h3, anyN_congr (q := fun j => (rd t.fEdges (j : Int)).fName == (rd t.fEdges (i : Int)).fName) (fun j _ hj => by rw [show (i : Int).toNat = i from rfl, rd_take hj])] at h5
  unfold types_edge edgeErr
  simp only [gd h1, h4, Option.bind_some, gd (show (0 : Int) ≤ (i : Int) ∧ (i : Int) ≤ (t.fEdges.length : Int) by omega), h5, jn, types_edge_1_eq, types_bounded_eq]
  cases isNameB (rd t.fEdges (i : Int)).fName <;> cases anyN (fun j => (rd t.fEdges (j : Int)).fName == (rd t.fEdges (i : Int)).fName) 0 i <;> cases insB (rd t.fEdges (i : Int)).fFrom t <;> cases insB (rd t.fEdges (i : Int)).fTo t <;>
    cases boundB (rd t.fEdges (i : Int)).fOutLow (rd t.fEdges (i : Int)).fOutHigh <;> cases boundB (rd t.fEdges (i : Int)).fInLow (rd t.fEdges (i : Int)).fInHigh <;> rfl
theorem ref04_edge_eq {k : Nat} (hk : 200 ≤ k) {t : Types} (ht : FewT t) {i : Nat} (hi : i < t.fEdges.length) : ref04_edge k t (i : Int) = some (edgeErr t i) := by
  have h20 := ht.edges
  have h21 := ht.nodes
  have h1 : (0 : Int) ≤ (i : Int) ∧ (i : Int) < (t.fEdges.length : Int) := by omega
  have hm := rd_mem h1.1 h1.2
  have h4 := ref01_IsName_eq (k := k) hk (rd t.fEdges (i : Int)).fName (by have := ht.ename _ hm; omega)
  unfold ref04_edge edgeErr
  rw [gd h1, h4, Option.bind_some]
  cases isNameB (rd t.fEdges (i : Int)).fName with
  | false => rfl
  | true =>
    rw [Bool.not_true, cond_false, cond_false, show (0 : Int) = ((0 : Nat) : Int) from rfl]
    refine loop1_eq (fun j => bif anyN (fun j => (rd t.fEdges (j : Int)).fName == (rd t.fEdges (i : Int)).fName) j i then (5 : Int) else _) i (fun rec => ?_) (fun j hj rec ih => ?_) (Nat.zero_le _) (by omega)
    · rw [anyN_end, cond_false]
      simp only [ref04_edge.b0, show decide ((i : Int) < (i : Int)) = false by simp, cond_false, gd (inR_of (x := (t.fNodes.length : Int) - 1) (by omega)), ref04_in_eq, ins_eq, ref04_bound_eq, Option.bind_some, jn]
      cases insB (rd t.fEdges (i : Int)).fFrom t <;> cases insB (rd t.fEdges (i : Int)).fTo t <;>
        cases boundB (rd t.fEdges (i : Int)).fOutLow (rd t.fEdges (i : Int)).fOutHigh <;> cases boundB (rd t.fEdges (i : Int)).fInLow (rd t.fEdges (i : Int)).fInHigh <;> rfl
    · rw [anyN_step hj]
      simp only [ref04_edge.b0, show decide ((j : Int) < (i : Int)) = true by simp [hj], cond_true, gd (show (0 : Int) ≤ (j : Int) ∧ (j : Int) < (t.fEdges.length : Int) by omega), gd (inR_nat (n := j) (by omega)), ih]
      cases ((rd t.fEdges (j : Int)).fName == (rd t.fEdges (i : Int)).fName) <;> rfl
def valid2S (t : Types) (i : Nat) : Int := bif scan (nodeErr t) i t.fNodes.length != 0 then scan (nodeErr t) i t.fNodes.length else scan (edgeErr t) 0 t.fEdges.length
def validS (t : Types) : Int :=
  bif ((t.fNodes.length : Int) == 0) then 7 else bif decide ((t.fNodes.length : Int) > 12) || decide ((t.fEdges.length : Int) > 20) then 3 else valid2S t 0
theorem types_Valid_out {k : Nat} (hk : 200 ≤ k) {t : Types} (ht : FewT t) : Out (types_Valid k t) (fun r => r.2 = validS t) := by
  have h20 := ht.nodes
  have h30 := ht.edges
  unfold types_Valid validS; simp only [jn]
  cases ((t.fNodes.length : Int) == 0) with
  | true => exact ⟨_, rfl, rfl⟩
  | false =>
    cases decide ((t.fNodes.length : Int) > 12) with
    | true => exact ⟨_, rfl, rfl⟩
    | false =>
      cases decide ((t.fEdges.length : Int) > 20) with
      | true => exact ⟨_, rfl, rfl⟩
      | false =>
        refine loop1_out (I := fun i => WfP t.fNodes i) (P := fun i (r : Str × Int) => r.2 = valid2S t i) t.fNodes.length (fun w rec => ?_) (fun i hi w rec ih => ?_) k 0 (Nat.zero_le _) (by omega) ⟨Nat.zero_le _, fun j hj => by omega⟩
        · simp only [types_Valid.b0, show decide ((t.fNodes.length : Int) < (t.fNodes.length : Int)) = false by simp, cond_false, valid2S, scan_end, bne_self_eq_false]
          refine loop1_out (I := fun _ => True) (P := fun i (r : Str × Int) => r.2 = scan (edgeErr t) i t.fEdges.length) t.fEdges.length (fun _ rec => ?_) (fun i hi _ rec ih => ?_) k 0 (Nat.zero_le _) (by omega) trivial
          · simp only [types_Valid.b1, show decide ((t.fEdges.length : Int) < (t.fEdges.length : Int)) = false by simp, cond_false, scan_end]
            exact ⟨_, rfl, rfl⟩
          · rw [scan_step hi]
            simp only [types_Valid.b1, show decide ((i : Int) < (t.fEdges.length : Int)) = true by simp [hi], cond_true, gd (show (0 : Int) ≤ (i : Int) ∧ (i : Int) < (t.fEdges.length : Int) by omega), types_edge_eq hk ht hi, Option.bind_some, gd (inR_nat (n := i) (by omega))]
            cases (edgeErr t i != 0) with
            | true => exact ⟨_, rfl, rfl⟩
            | false => exact ih trivial
        · unfold valid2S
          rw [scan_step hi]
          simp only [types_Valid.b0, show decide ((i : Int) < (t.fNodes.length : Int)) = true by simp [hi], cond_true, gd (show (0 : Int) ≤ (i : Int) ∧ (i : Int) < (t.fNodes.length : Int) by omega), types_node_eq hk ht hi w, Option.bind_some, gd (inR_nat (n := i) (by omega))]
          cases hz : (nodeErr t i != 0) with
          | true => exact ⟨_, rfl, by rw [cond_true, hz]; rfl⟩
          | false => exact ih (nodeErr_wf w hi (by simpa using hz))
theorem ref04_Valid_out {k : Nat} (hk : 200 ≤ k) {t : Types} (ht : FewT t) : Out (ref04_Valid k t) (fun r => r.2 = validS t) := by
  have h20 := ht.nodes
  have h30 := ht.edges
  unfold ref04_Valid validS; simp only [jn]
  cases ((t.fNodes.length : Int) == 0) with
  | true => exact ⟨_, rfl, rfl⟩
  | false =>
    cases decide ((t.fNodes.length : Int) > 12) with
    | true => exact ⟨_, rfl, rfl⟩
    | false =>
      cases decide ((t.fEdges.length : Int) > 20) with
      | true => exact ⟨_, rfl, rfl⟩
      | false =>
        refine loop1_out (I := fun i => WfP t.fNodes i) (P := fun i (r : Str × Int) => r.2 = valid2S t i) t.fNodes.length (fun w rec => ?_) (fun i hi w rec ih => ?_) k 0 (Nat.zero_le _) (by omega) ⟨Nat.zero_le _, fun j hj => by omega⟩
        · simp only [ref04_Valid.b0, show decide ((t.fNodes.length : Int) < (t.fNodes.length : Int)) = false by simp, cond_false, valid2S, scan_end, bne_self_eq_false]
          refine loop1_out (I := fun _ => True) (P := fun i (r : Str × Int) => r.2 = scan (edgeErr t) i t.fEdges.length) t.fEdges.length (fun _ rec => ?_) (fun i hi _ rec ih => ?_) k 0 (Nat.zero_le _) (by omega) trivial
          · simp only [ref04_Valid.b1, show decide ((t.fEdges.length : Int) < (t.fEdges.length : Int)) = false by simp, cond_false, scan_end]
            exact ⟨_, rfl, rfl⟩
          · rw [scan_step hi]
            simp only [ref04_Valid.b1, show decide ((i : Int) < (t.fEdges.length : Int)) = true by simp [hi], cond_true, gd (show (0 : Int) ≤ (i : Int) ∧ (i : Int) < (t.fEdges.length : Int) by omega), ref04_edge_eq hk ht hi, Option.bind_some, gd (inR_nat (n := i) (by omega))]
            cases (edgeErr t i != 0) with
            | true => exact ⟨_, rfl, rfl⟩
            | false => exact ih trivial
        · unfold valid2S
          rw [scan_step hi]
          simp only [ref04_Valid.b0, show decide ((i : Int) < (t.fNodes.length : Int)) = true by simp [hi], cond_true, gd (show (0 : Int) ≤ (i : Int) ∧ (i : Int) < (t.fNodes.length : Int) by omega), ref04_node_eq hk ht hi w, Option.bind_some, gd (inR_nat (n := i) (by omega))]
          cases hz : (nodeErr t i != 0) with
          | true => exact ⟨_, rfl, by rw [cond_true, hz]; rfl⟩
          | false => exact ih (nodeErr_wf w hi (by simpa using hz))
theorem valid_wf {t : Types} (h : validS t = 0) : WfP t.fNodes t.fNodes.length ∧ t.fNodes.length ≤ 12 ∧ t.fEdges.length ≤ 20 := by
  unfold validS at h
  cases h0 : ((t.fNodes.length : Int) == 0) with
  | true => rw [h0] at h; simp at h
  | false =>
    cases h1 : decide ((t.fNodes.length : Int) > 12) || decide ((t.fEdges.length : Int) > 20) with
    | true => rw [h0, h1] at h; simp at h
    | false =>
      simp only [Bool.or_eq_false_iff, decide_eq_false_iff_not] at h1
      rw [h0] at h
      have h1' : (decide ((t.fNodes.length : Int) > 12) || decide ((t.fEdges.length : Int) > 20)) = false := by simp; omega
      rw [h1'] at h
      simp only [cond_false, valid2S] at h
      have hz : scan (nodeErr t) 0 t.fNodes.length = 0 := by
        cases hb : (scan (nodeErr t) 0 t.fNodes.length != 0) with
        | true => rw [hb] at h; exact h
        | false => simpa using hb
      refine ⟨?_, by omega, by omega⟩
      have : ∀ i, i ≤ t.fNodes.length → WfP t.fNodes i := by
        intro i
        induction i with
        | zero => intro _; exact ⟨Nat.zero_le _, fun j hj => by omega⟩
        | succ i ih => intro hi; exact nodeErr_wf (ih (by omega)) (by omega) (scan_zero hz i (Nat.zero_le _) (by omega))
      exact this _ (Nat.le_refl _)
def kindB (x : Int) : Bool := decide (x ≥ 0) && decide (x ≤ 99)
def ltB (x n : Int) : Bool := decide (x ≥ 0) && decide (x < n)
def rightB (e : Edge) (n : Int) : Bool := kindB e.fType && (ltB e.fFrom n && ltB e.fTo n)
theorem graph_within_eq {k : Nat} (a b : Int) : graph_within k a b = some (decide (a ≥ 0) && decide (a ≤ b)) := by
  simp only [graph_within, jn]; cases decide (a ≥ 0) <;> rfl
theorem graph_fits_eq {k : Nat} (e : Edge) {n : Int} (hn : inR (n - 1)) : graph_fits k e n = some (rightB e n) := by
  simp only [graph_fits, jn, graph_within_eq, Option.bind_some, gd hn, rightB, kindB, ltB]
  have h1 : decide (e.fFrom ≤ n - 1) = decide (e.fFrom < n) := by rw [Bool.eq_iff_iff]; simp; omega
  have h2 : decide (e.fTo ≤ n - 1) = decide (e.fTo < n) := by rw [Bool.eq_iff_iff]; simp; omega
  rw [h1, h2]
  cases (decide (e.fType ≥ 0) && decide (e.fType ≤ 99)) <;> cases (decide (e.fFrom ≥ 0) && decide (e.fFrom < n)) <;> rfl
theorem ref05_kind_eq {k : Nat} (a : Int) : ref05_kind k a = some (kindB a) := by
  simp only [ref05_kind, jn, kindB]; cases decide (a ≥ 0) <;> rfl
theorem ref05_right_eq {k : Nat} (e : Edge) (n : Int) : ref05_right k e n = some (rightB e n) := by
  simp only [ref05_right, jn, ref05_kind_eq, Option.bind_some, rightB, ltB]
  cases kindB e.fType <;> cases decide (e.fFrom ≥ 0) <;> cases decide (e.fFrom < n) <;> cases decide (e.fTo ≥ 0) <;> rfl
structure FewG (g : Graph) : Prop where
  nodes : g.fNodes.length ≤ 45
  edges : g.fEdges.length ≤ 90
def edges6 (g : Graph) (i : Nat) : Int := bif anyN (fun j => !rightB (rd g.fEdges (j : Int)) (g.fNodes.length : Int)) i g.fEdges.length then 6 else 0
def nodes6 (g : Graph) (i : Nat) : Int := bif anyN (fun j => !kindB (rd g.fNodes (j : Int))) i g.fNodes.length then 6 else edges6 g 0
def graphErr (g : Graph) : Int := bif decide ((g.fNodes.length : Int) > 40) || decide ((g.fEdges.length : Int) > 80) then 3 else nodes6 g 0
theorem graph_Valid_eq {k : Nat} (hk : 200 ≤ k) {g : Graph} (hg : FewG g) : graph_Valid k g = some (graphErr g) := by
  have h1 := hg.nodes; have h2 := hg.edges
  have h3 := ContainsFunc_int (k := k) g.fNodes (fun x => graph_Valid_1 k x) (fun j => !kindB (rd g.fNodes (j : Int))) (by omega) (by omega) (fun j _ => by simp only [graph_Valid_1, graph_within_eq, Option.bind_some, kindB])
  have h4 := ContainsFunc_Edge (k := k) g.fEdges (fun x => graph_Valid_2 k x g) (fun j => !rightB (rd g.fEdges (j : Int)) (g.fNodes.length : Int)) (by omega) (by omega)
    (fun j _ => by simp only [graph_Valid_2, graph_fits_eq _ (inR_of (x := (g.fNodes.length : Int) - 1) (by omega)), Option.bind_some])
  simp only [graph_Valid, jn, h3, h4, Option.bind_some, graphErr, nodes6, edges6]
  cases decide ((g.fNodes.length : Int) > 40) <;> cases decide ((g.fEdges.length : Int) > 80) <;> cases anyN (fun j => !kindB (rd g.fNodes (j : Int))) 0 g.fNodes.length <;> cases anyN (fun j => !rightB (rd g.fEdges (j : Int)) (g.fNodes.length : Int)) 0 g.fEdges.length <;> rfl
theorem ref05_Valid_eq {k : Nat} (hk : 200 ≤ k) {g : Graph} (hg : FewG g) : ref05_Valid k g = some (graphErr g) := by
  have h1 := hg.nodes; have h2 := hg.edges
  have h3 : loop1 k (ref05_Valid.b0 k g) ((0 : Nat) : Int) = some (nodes6 g 0) := by
    refine loop1_eq (fun i => nodes6 g i) g.fNodes.length (fun rec => ?_) (fun i hi rec ih => ?_) (Nat.zero_le _) (by omega)
    · simp only [ref05_Valid.b0, show decide ((g.fNodes.length : Int) < (g.fNodes.length : Int)) = false by simp, cond_false, nodes6, anyN_end]
      have h4 : loop1 k (ref05_Valid.b1 k g) ((0 : Nat) : Int) = some (edges6 g 0) := by
        refine loop1_eq (fun i => edges6 g i) g.fEdges.length (fun rec => ?_) (fun i hi rec ih => ?_) (Nat.zero_le _) (by omega)
        · simp only [ref05_Valid.b1, show decide ((g.fEdges.length : Int) < (g.fEdges.length : Int)) = false by simp, cond_false, edges6, anyN_end]
        · simp only [edges6] at ih
          simp only [edges6, anyN_step hi, ref05_Valid.b1, show decide ((i : Int) < (g.fEdges.length : Int)) = true by simp [hi], cond_true, gd (show (0 : Int) ≤ (i : Int) ∧ (i : Int) < (g.fEdges.length : Int) by omega), ref05_right_eq, Option.bind_some, gd (inR_nat (n := i) (by omega)), ih]
          cases rightB (rd g.fEdges (i : Int)) (g.fNodes.length : Int) with
          | true => simp only [Bool.not_true, cond_false, Bool.false_or]
          | false => simp only [Bool.not_false, cond_true, Bool.true_or]
      exact h4
    · simp only [nodes6] at ih
      simp only [nodes6, anyN_step hi, ref05_Valid.b0, show decide ((i : Int) < (g.fNodes.length : Int)) = true by simp [hi], cond_true, gd (show (0 : Int) ≤ (i : Int) ∧ (i : Int) < (g.fNodes.length : Int) by omega), ref05_kind_eq, Option.bind_some, gd (inR_nat (n := i) (by omega)), ih]
      cases kindB (rd g.fNodes (i : Int)) with
      | true => simp only [Bool.not_true, cond_false, Bool.false_or]
      | false => simp only [Bool.not_false, cond_true, Bool.true_or]
  have h4 : loop1 k (ref05_Valid.b0 k g) 0 = some (nodes6 g 0) := h3
  simp only [ref05_Valid, jn, h4, graphErr]
  cases decide ((g.fNodes.length : Int) > 40) <;> cases decide ((g.fEdges.length : Int) > 80) <;> rfl
structure GoodG (g : Graph) : Prop where
  nodes : g.fNodes.length ≤ 40
  edges : g.fEdges.length ≤ 80
  kind : ∀ j : Nat, j < g.fNodes.length → 0 ≤ rd g.fNodes (j : Int) ∧ rd g.fNodes (j : Int) ≤ 99
  right : ∀ j : Nat, j < g.fEdges.length → 0 ≤ (rd g.fEdges (j : Int)).fType ∧ (0 ≤ (rd g.fEdges (j : Int)).fFrom ∧ (rd g.fEdges (j : Int)).fFrom < (g.fNodes.length : Int)) ∧ (0 ≤ (rd g.fEdges (j : Int)).fTo ∧ (rd g.fEdges (j : Int)).fTo < (g.fNodes.length : Int))
theorem anyN_false {p : Nat → Bool} {i n : Nat} (h : anyN p i n = false) : ∀ j, i ≤ j → j < n → p j = false := fun j h1 h2 => by
  cases hp : p j with
  | false => rfl
  | true => rw [anyN_iff.2 ⟨j, h1, h2, hp⟩] at h; cases h
theorem anyN_none {p : Nat → Bool} {i n : Nat} (h : ∀ j, i ≤ j → j < n → p j = false) : anyN p i n = false := by
  cases hp : anyN p i n with
  | false => rfl
  | true => obtain ⟨j, h1, h2, h3⟩ := anyN_iff.1 hp; rw [h j h1 h2] at h3; cases h3
theorem graphErr_good {g : Graph} (h : graphErr g = 0) : GoodG g := by
  unfold graphErr nodes6 edges6 at h
  cases h0 : decide ((g.fNodes.length : Int) > 40) || decide ((g.fEdges.length : Int) > 80) with
  | true => rw [h0] at h; simp at h
  | false =>
    rw [h0] at h
    cases h1 : anyN (fun j => !kindB (rd g.fNodes (j : Int))) 0 g.fNodes.length with
    | true => rw [h1] at h; simp at h
    | false =>
      rw [h1] at h
      cases h2 : anyN (fun j => !rightB (rd g.fEdges (j : Int)) (g.fNodes.length : Int)) 0 g.fEdges.length with
      | true => rw [h2] at h; simp at h
      | false =>
        simp only [Bool.or_eq_false_iff, decide_eq_false_iff_not] at h0
        refine ⟨by omega, by omega, fun j hj => ?_, fun j hj => ?_⟩
        · have := anyN_false h1 j (Nat.zero_le _) hj
          simp only [kindB, Bool.not_eq_false', Bool.and_eq_true, decide_eq_true_eq] at this
          omega
        · have := anyN_false h2 j (Nat.zero_le _) hj
          simp only [rightB, kindB, ltB, Bool.not_eq_false', Bool.and_eq_true, decide_eq_true_eq] at this
          omega
def typedB (t : Types) (g : Graph) : Bool := !anyN (fun j => decide (rd g.fNodes (j : Int) ≥ (t.fNodes.length : Int))) 0 g.fNodes.length && !anyN (fun j => decide ((rd g.fEdges (j : Int)).fType ≥ (t.fEdges.length : Int))) 0 g.fEdges.length
theorem search_within_eq {k : Nat} (hk : 200 ≤ k) (t : Types) {g : Graph} (hg : FewG g) : search_within k t g = some (typedB t g) := by
  have h1 := hg.nodes; have h2 := hg.edges
  have h3 := ContainsFunc_int (k := k) g.fNodes (fun x => search_within_1 k x t) (fun j => decide (rd g.fNodes (j : Int) ≥ (t.fNodes.length : Int))) (by omega) (by omega) (fun j _ => rfl)
  have h4 := ContainsFunc_Edge (k := k) g.fEdges (fun x => search_within_2 k x t) (fun j => decide ((rd g.fEdges (j : Int)).fType ≥ (t.fEdges.length : Int))) (by omega) (by omega) (fun j _ => rfl)
  simp only [search_within, jn, h3, h4, Option.bind_some, typedB]
  cases anyN (fun j => decide (rd g.fNodes (j : Int) ≥ (t.fNodes.length : Int))) 0 g.fNodes.length <;> rfl
def typed1 (t : Types) (g : Graph) (i : Nat) : Bool := !anyN (fun j => decide ((rd g.fEdges (j : Int)).fType < 0) || decide ((rd g.fEdges (j : Int)).fType ≥ (t.fEdges.length : Int))) i g.fEdges.length
def typed0 (t : Types) (g : Graph) (i : Nat) : Bool := !anyN (fun j => decide (rd g.fNodes (j : Int) < 0) || decide (rd g.fNodes (j : Int) ≥ (t.fNodes.length : Int))) i g.fNodes.length && typed1 t g 0
theorem ref17_Typed_eq {k : Nat} (hk : 200 ≤ k) (t : Types) {g : Graph} (hg : GoodG g) : ref17_Typed k t g = some (typedB t g) := by
  have h1 := hg.nodes; have h2 := hg.edges
  have h3 : loop1 k (ref17_Typed.b0 k t g) ((0 : Nat) : Int) = some (typed0 t g 0) := by
    refine loop1_eq (fun i => typed0 t g i) g.fNodes.length (fun rec => ?_) (fun i hi rec ih => ?_) (Nat.zero_le _) (by omega)
    · simp only [ref17_Typed.b0, show decide ((g.fNodes.length : Int) < (g.fNodes.length : Int)) = false by simp, cond_false, typed0, anyN_end, Bool.not_false, Bool.true_and]
      have h4 : loop1 k (ref17_Typed.b1 t g) ((0 : Nat) : Int) = some (typed1 t g 0) := by
        refine loop1_eq (fun i => typed1 t g i) g.fEdges.length (fun rec => ?_) (fun i hi rec ih => ?_) (Nat.zero_le _) (by omega)
        · simp only [ref17_Typed.b1, show decide ((g.fEdges.length : Int) < (g.fEdges.length : Int)) = false by simp, cond_false, typed1, anyN_end, Bool.not_false]
        · simp only [typed1] at ih
          simp only [typed1, anyN_step hi, ref17_Typed.b1, jn, show decide ((i : Int) < (g.fEdges.length : Int)) = true by simp [hi], cond_true, gd (show (0 : Int) ≤ (i : Int) ∧ (i : Int) < (g.fEdges.length : Int) by omega), gd (inR_nat (n := i) (by omega)), ih]
          cases decide ((rd g.fEdges (i : Int)).fType < 0) <;> cases decide ((rd g.fEdges (i : Int)).fType ≥ (t.fEdges.length : Int)) <;> simp
      exact h4
    · simp only [typed0] at ih
      simp only [typed0, anyN_step hi, ref17_Typed.b0, jn, show decide ((i : Int) < (g.fNodes.length : Int)) = true by simp [hi], cond_true, gd (show (0 : Int) ≤ (i : Int) ∧ (i : Int) < (g.fNodes.length : Int) by omega), gd (inR_nat (n := i) (by omega)), ih]
      cases decide (rd g.fNodes (i : Int) < 0) <;> cases decide (rd g.fNodes (i : Int) ≥ (t.fNodes.length : Int)) <;> simp
  have h5 : ref17_Typed k t g = some (typed0 t g 0) := h3
  rw [h5]; unfold typed0 typed1 typedB
  rw [anyN_congr (p := fun j => decide (rd g.fNodes (j : Int) < 0) || decide (rd g.fNodes (j : Int) ≥ (t.fNodes.length : Int))) (q := fun j => decide (rd g.fNodes (j : Int) ≥ (t.fNodes.length : Int))) (fun j _ hj => by
      rw [decide_eq_false (show ¬ rd g.fNodes (j : Int) < 0 by have := hg.kind j hj; omega), Bool.false_or]),
    anyN_congr (p := fun j => decide ((rd g.fEdges (j : Int)).fType < 0) || decide ((rd g.fEdges (j : Int)).fType ≥ (t.fEdges.length : Int))) (q := fun j => decide ((rd g.fEdges (j : Int)).fType ≥ (t.fEdges.length : Int))) (fun j _ hj => by
      rw [decide_eq_false (show ¬ (rd g.fEdges (j : Int)).fType < 0 by have := hg.right j hj; omega), Bool.false_or])]
theorem typedB_node {t : Types} {g : Graph} (h : typedB t g = true) {j : Nat} (hj : j < g.fNodes.length) : rd g.fNodes (j : Int) < (t.fNodes.length : Int) := by
  simp only [typedB, Bool.and_eq_true, Bool.not_eq_true'] at h
  have := anyN_false h.1 j (Nat.zero_le _) hj
  simp only [decide_eq_false_iff_not] at this; omega
def givenS (t : Types) (p g : Graph) : Int :=
  bif validS t != 0 then validS t else bif graphErr p != 0 then graphErr p else bif graphErr g != 0 then graphErr g else bif typedB t p && typedB t g then 0 else 13
structure Small (t : Types) (p g : Graph) : Prop where
  t : FewT t
  p : FewG p
  g : FewG g
structure Fine (t : Types) (p g : Graph) : Prop where
  ok : validS t = 0
  gp : GoodG p
  gg : GoodG g
  tp : typedB t p = true
  tg : typedB t g = true
theorem givenS_fine {t : Types} {p g : Graph} (h : givenS t p g = 0) : Fine t p g := by
  unfold givenS at h
  cases h0 : (validS t != 0) with
  | true => rw [h0] at h; simp at h0; exact absurd h h0
  | false =>
    rw [h0] at h; simp at h0
    cases h1 : (graphErr p != 0) with
    | true => rw [h1] at h; simp at h1; exact absurd h h1
    | false =>
      rw [h1] at h; simp at h1
      cases h2 : (graphErr g != 0) with
      | true => rw [h2] at h; simp at h2; exact absurd h h2
      | false =>
        rw [h2] at h; simp at h2
        cases h3 : (typedB t p && typedB t g) with
        | false => rw [h3] at h; simp at h
        | true =>
          rw [Bool.and_eq_true] at h3
          exact ⟨h0, graphErr_good h1, graphErr_good h2, h3.1, h3.2⟩
theorem search_valid_eq {k : Nat} (hk : 200 ≤ k) {t : Types} {p g : Graph} (h : Small t p g) : search_valid k t p g = some (givenS t p g) := by
  obtain ⟨r, e, hr⟩ := types_Valid_out hk h.t
  unfold search_valid givenS
  rw [e, Option.bind_some, hr]
  cases (validS t != 0) with
  | true => rfl
  | false =>
    obtain ⟨k, rfl⟩ : ∃ j, k = j + 3 := ⟨k - 3, by omega⟩
    rw [cond_false, cond_false]
    simp only [loop1, search_valid.b0, jn, show ((([p, g] : List Graph).length : Nat) : Int) = 2 from rfl, show (rd [p, g] 0) = p from rfl, show (rd [p, g] (0 + 1)) = g from rfl, graph_Valid_eq hk h.p, graph_Valid_eq hk h.g, search_within_eq hk t h.p, search_within_eq hk t h.g, Option.bind_some]
    rw [show decide ((0 : Int) < 2) = true from rfl, show decide ((0 : Int) + 1 < 2) = true from rfl, show decide ((0 : Int) + 1 + 1 < 2) = false from rfl, gd (show (0 : Int) ≤ 0 ∧ (0 : Int) < 2 by omega), gd (show (0 : Int) ≤ 0 + 1 ∧ (0 : Int) + 1 < 2 by omega), gd (show inR (0 + 1) from inR_of (by omega)), gd (show inR (0 + 1 + 1) from inR_of (by omega))]
    simp only [cond_true, cond_false]
    cases (graphErr p != 0) with
    | true => rfl
    | false =>
      cases (graphErr g != 0) with
      | true => rfl
      | false => cases typedB t p <;> cases typedB t g <;> rfl
theorem ref17_given_eq {k : Nat} (hk : 200 ≤ k) {t : Types} {p g : Graph} (h : Small t p g) : ref17_given k t p g = some (givenS t p g) := by
  obtain ⟨r, e, hr⟩ := ref04_Valid_out hk h.t
  unfold ref17_given givenS
  rw [e, Option.bind_some, hr]
  cases (validS t != 0) with
  | true => rfl
  | false =>
    rw [cond_false, cond_false, ref05_Valid_eq hk h.p, Option.bind_some]
    cases h1 : (graphErr p != 0) with
    | true => rfl
    | false =>
      rw [cond_false, cond_false, ref05_Valid_eq hk h.g, Option.bind_some]
      cases h2 : (graphErr g != 0) with
      | true => rfl
      | false =>
        simp at h1 h2
        simp only [cond_false, jn, ref17_Typed_eq hk t (graphErr_good h1), ref17_Typed_eq hk t (graphErr_good h2), Option.bind_some]
        cases typedB t p <;> cases typedB t g <;> rfl
theorem rd_cover {α : Type} [Inhabited α] {l : List α} {P : α → Prop} (h : ∀ j : Nat, j < l.length → P (rd l (j : Int))) : ∀ x ∈ l, P x := by
  intro x hx
  obtain ⟨i, hi, rfl⟩ := List.mem_iff_getElem.1 hx
  have := h i hi
  simpa [rd, List.getD, List.getElem?_eq_getElem hi] using this
structure FewN (n : NodeType) : Prop where
  name : n.fName.length ≤ 40
  attrs : n.fAttrs.length ≤ 30
  attr : ∀ j : Nat, j < n.fAttrs.length → FewA (rd n.fAttrs (j : Int))
theorem ref04_Few_out {k : Nat} (hk : 200 ≤ k) {t : Types} (hA : ∀ n ∈ t.fNodes, n.fAttrs.length ≤ 140737488351232) : Out (ref04_Few k t) (fun b => b = true → FewT t) := by
  unfold ref04_Few; simp only [jn]
  cases h0 : decide ((t.fNodes.length : Int) > 20) with
  | true => exact ⟨false, rfl, fun h => by cases h⟩
  | false =>
    cases h1 : decide ((t.fEdges.length : Int) > 30) with
    | true => exact ⟨false, rfl, fun h => by cases h⟩
    | false =>
      simp at h0 h1
      rw [cond_false, cond_false]
      refine (loop2_out (S := Int) (P := fun _ i b => b = true → (∀ j : Nat, i ≤ j → j < t.fNodes.length → FewN (rd t.fNodes (j : Int))) ∧ (∀ j : Nat, j < t.fEdges.length → (rd t.fEdges (j : Int)).fName.length ≤ 40))
        (I := fun s _ => 0 ≤ s ∧ s ≤ 30) t.fNodes.length (fun s hs rec => ?_) (fun s i hi hs rec ih => ?_) k 0 0 (Nat.zero_le _) (by omega) (by omega)).mono fun b hb e => ?_
      · simp only [ref04_Few.b0, show decide ((t.fNodes.length : Int) < (t.fNodes.length : Int)) = false by simp, cond_false]
        refine (loop1_out (I := fun _ => True) (P := fun i b => b = true → ∀ j : Nat, i ≤ j → j < t.fEdges.length → (rd t.fEdges (j : Int)).fName.length ≤ 40) t.fEdges.length (fun _ rec => ?_) (fun i hi _ rec ih => ?_) k 0 (Nat.zero_le _) (by omega) trivial).mono fun b hb e => ?_
        · simp only [ref04_Few.b3, show decide ((t.fEdges.length : Int) < (t.fEdges.length : Int)) = false by simp, cond_false]
          exact ⟨_, rfl, fun _ j h1 h2 => by omega⟩
        · rw [ref04_Few.b3, show decide ((i : Int) < (t.fEdges.length : Int)) = true by simp [hi], cond_true, gd (show (0 : Int) ≤ (i : Int) ∧ (i : Int) < (t.fEdges.length : Int) by omega), gd (inR_nat (n := i) (by omega))]
          cases hc : decide (((rd t.fEdges (i : Int)).fName.length : Int) > 40) with
          | true => exact ⟨false, rfl, fun h => by cases h⟩
          | false =>
            simp at hc
            refine (ih trivial).mono fun b hb e j h1 h2 => ?_
            rcases Nat.eq_or_lt_of_le h1 with rfl | h3
            · omega
            · exact hb e j h3 h2
        · exact ⟨fun j h1 h2 => by omega, fun j hj => hb e j (Nat.zero_le _) hj⟩
      · have hal := hA _ (rd_mem (l := t.fNodes) (x := (i : Int)) (by omega) (by omega))
        have g1 : (0 : Int) ≤ (i : Int) ∧ (i : Int) < (t.fNodes.length : Int) := by omega
        simp only [ref04_Few.b0, jn]
        rw [show decide ((i : Int) < (t.fNodes.length : Int)) = true by simp [hi], cond_true, gd g1, gd g1, gd (inR_of (x := s + ((rd t.fNodes (i : Int)).fAttrs.length : Int)) (by omega))]
        cases hc : decide (s + ((rd t.fNodes (i : Int)).fAttrs.length : Int) > 30) with
        | true => exact ⟨false, rfl, fun h => by cases h⟩
        | false =>
          cases hd : decide (((rd t.fNodes (i : Int)).fName.length : Int) > 40) with
          | true => exact ⟨false, rfl, fun h => by cases h⟩
          | false =>
            simp at hc hd
            rw [cond_false, cond_false]
            refine (loop1_out (I := fun _ => True) (P := fun a b => b = true → (∀ j : Nat, a ≤ j → j < (rd t.fNodes (i : Int)).fAttrs.length → FewA (rd (rd t.fNodes (i : Int)).fAttrs (j : Int))) ∧ (∀ j : Nat, i + 1 ≤ j → j < t.fNodes.length → FewN (rd t.fNodes (j : Int))) ∧ (∀ j : Nat, j < t.fEdges.length → (rd t.fEdges (j : Int)).fName.length ≤ 40))
              (rd t.fNodes (i : Int)).fAttrs.length (fun _ rec1 => ?_) (fun a ha _ rec1 ih1 => ?_) k 0 (Nat.zero_le _) (by omega) trivial).mono fun b hb e => ?_
            · simp only [ref04_Few.b1, gd g1, show decide ((((rd t.fNodes (i : Int)).fAttrs.length : Nat) : Int) < ((rd t.fNodes (i : Int)).fAttrs.length : Int)) = false by simp, cond_false, gd (inR_nat (n := i) (by omega))]
              exact (ih _ (by omega)).mono fun b hb e => ⟨fun j h1 h2 => by omega, hb e⟩
            · have g2 : (0 : Int) ≤ (a : Int) ∧ (a : Int) < ((rd t.fNodes (i : Int)).fAttrs.length : Int) := by omega
              simp only [ref04_Few.b1, jn]
              rw [gd g1, gd g1, gd g2, show decide ((a : Int) < ((rd t.fNodes (i : Int)).fAttrs.length : Int)) = true by simp [ha], cond_true]
              cases he : decide (((rd (rd t.fNodes (i : Int)).fAttrs (a : Int)).fName.length : Int) > 40) with
              | true => exact ⟨false, rfl, fun h => by cases h⟩
              | false =>
                cases hf : decide (((rd (rd t.fNodes (i : Int)).fAttrs (a : Int)).fNames.length : Int) > 25) with
                | true => exact ⟨false, rfl, fun h => by cases h⟩
                | false =>
                  simp at he hf
                  rw [cond_false, cond_false]
                  refine (loop1_out (I := fun _ => True) (P := fun m b => b = true → (∀ j : Nat, m ≤ j → j < (rd (rd t.fNodes (i : Int)).fAttrs (a : Int)).fNames.length → (rd (rd (rd t.fNodes (i : Int)).fAttrs (a : Int)).fNames (j : Int)).length ≤ 40) ∧ (∀ j : Nat, a + 1 ≤ j → j < (rd t.fNodes (i : Int)).fAttrs.length → FewA (rd (rd t.fNodes (i : Int)).fAttrs (j : Int))) ∧ (∀ j : Nat, i + 1 ≤ j → j < t.fNodes.length → FewN (rd t.fNodes (j : Int))) ∧ (∀ j : Nat, j < t.fEdges.length → (rd t.fEdges (j : Int)).fName.length ≤ 40))
                    (rd (rd t.fNodes (i : Int)).fAttrs (a : Int)).fNames.length (fun _ rec2 => ?_) (fun m hm _ rec2 ih2 => ?_) k 0 (Nat.zero_le _) (by omega) trivial).mono fun b hb e => ?_
                  · simp only [ref04_Few.b2, show decide ((((rd (rd t.fNodes (i : Int)).fAttrs (a : Int)).fNames.length : Nat) : Int) < ((rd (rd t.fNodes (i : Int)).fAttrs (a : Int)).fNames.length : Int)) = false by simp, cond_false, gd (inR_nat (n := a) (by omega))]
                    exact (ih1 trivial).mono fun b hb e => ⟨fun j h1 h2 => by omega, hb e⟩
                  · rw [ref04_Few.b2, show decide ((m : Int) < ((rd (rd t.fNodes (i : Int)).fAttrs (a : Int)).fNames.length : Int)) = true by simp [hm], cond_true, gd (show (0 : Int) ≤ (m : Int) ∧ (m : Int) < ((rd (rd t.fNodes (i : Int)).fAttrs (a : Int)).fNames.length : Int) by omega), gd (inR_nat (n := m) (by omega))]
                    cases hc : decide (((rd (rd (rd t.fNodes (i : Int)).fAttrs (a : Int)).fNames (m : Int)).length : Int) > 40) with
                    | true => exact ⟨false, rfl, fun h => by cases h⟩
                    | false =>
                      simp at hc
                      refine (ih2 trivial).mono fun b hb e => ⟨fun j h1 h2 => ?_, (hb e).2⟩
                      rcases Nat.eq_or_lt_of_le h1 with rfl | h3
                      · omega
                      · exact (hb e).1 j h3 h2
                  · refine ⟨fun j h1 h2 => ?_, (hb e).2.2⟩
                    rcases Nat.eq_or_lt_of_le h1 with rfl | h3
                    · exact ⟨by omega, by omega, rd_cover fun j hj => (hb e).1 j (Nat.zero_le _) hj⟩
                    · exact (hb e).2.1 j h3 h2
            · refine ⟨fun j h1 h2 => ?_, (hb e).2.2⟩
              rcases Nat.eq_or_lt_of_le h1 with rfl | h3
              · exact ⟨by omega, by omega, fun j hj => (hb e).1 j (Nat.zero_le _) hj⟩
              · exact (hb e).2.1 j h3 h2
      · obtain ⟨hn, he⟩ := hb e
        have hn' : ∀ x ∈ t.fNodes, FewN x := rd_cover fun j hj => hn j (Nat.zero_le _) hj
        exact ⟨by omega, by omega, fun n h => (hn' n h).name, fun n h => (hn' n h).attrs, fun n h => rd_cover (hn' n h).attr, rd_cover he⟩
theorem ref05_Few_eq {k : Nat} (g : Graph) : ref05_Few k g = some (decide ((g.fNodes.length : Int) ≤ 45) && decide ((g.fEdges.length : Int) ≤ 90)) := by
  simp only [ref05_Few, jn]; cases decide ((g.fNodes.length : Int) ≤ 45) <;> rfl
structure LightP (t : Types) (p g : Graph) : Prop where
  small : Small t p g
  few : givenS t p g = 0 → p.fNodes.length + p.fEdges.length ≤ 6 ∧ g.fNodes.length ≤ 8 ∧ g.fEdges.length ≤ 12
theorem ref17_Light_out {k : Nat} (hk : 200 ≤ k) {t : Types} {p g : Graph} (hA : ∀ n ∈ t.fNodes, n.fAttrs.length ≤ 140737488351232) : Out (ref17_Light k t p g) (fun b => b = true → LightP t p g) := by
  unfold ref17_Light; simp only [jn]
  refine Out.bind (ref04_Few_out hk hA) fun b hb => ?_
  cases b with
  | false => exact ⟨false, rfl, fun h => by cases h⟩
  | true =>
    have ht := hb rfl
    simp only [cond_true, ref05_Few_eq, Option.bind_some]
    cases h1 : (decide ((p.fNodes.length : Int) ≤ 45) && decide ((p.fEdges.length : Int) ≤ 90)) with
    | false => exact ⟨false, rfl, fun h => by cases h⟩
    | true =>
      cases h2 : (decide ((g.fNodes.length : Int) ≤ 45) && decide ((g.fEdges.length : Int) ≤ 90)) with
      | false => exact ⟨false, rfl, fun h => by cases h⟩
      | true =>
        simp only [Bool.and_eq_true, decide_eq_true_eq] at h1 h2
        have hs : Small t p g := ⟨ht, ⟨by omega, by omega⟩, ⟨by omega, by omega⟩⟩
        simp only [cond_true, ref17_given_eq hk hs, Option.bind_some, gd (inR_of (x := (p.fNodes.length : Int) + (p.fEdges.length : Int)) (by omega))]
        cases h3 : (givenS t p g != 0) with
        | true => exact ⟨true, rfl, fun _ => ⟨hs, fun h => by simp [h] at h3⟩⟩
        | false =>
          cases h4 : decide ((p.fNodes.length : Int) + (p.fEdges.length : Int) ≤ 6) with
          | false => exact ⟨false, rfl, fun h => by cases h⟩
          | true =>
            cases h5 : decide ((g.fNodes.length : Int) ≤ 8) with
            | false => exact ⟨false, rfl, fun h => by cases h⟩
            | true =>
              refine ⟨_, rfl, fun h => ⟨hs, fun _ => ?_⟩⟩
              simp only [decide_eq_true_eq] at h4 h5 h
              omega
theorem anyN_mem {l : List Int} {b : Int} : anyN (fun j => b == rd l (j : Int)) 0 l.length = decide (b ∈ l) := by
  rw [Bool.eq_iff_iff, anyN_iff, decide_eq_true_eq]
  constructor
  · rintro ⟨j, _, hj, h⟩
    have : b = rd l (j : Int) := by simpa using h
    rw [this]; exact rd_mem (by omega) (by omega)
  · intro h
    obtain ⟨i, hi, rfl⟩ := List.mem_iff_getElem.1 h
    exact ⟨i, Nat.zero_le _, hi, by simp [rd, List.getD, List.getElem?_eq_getElem hi]⟩
theorem rd_set {α : Type} [Inhabited α] {l : List α} {x y : Int} {v : α} (h0 : 0 ≤ x) (hx : x < (l.length : Int)) (hy : 0 ≤ y) : rd (l.set x.toNat v) y = if y = x then v else rd l y := by
  unfold rd
  by_cases h : y = x
  · subst h
    have : y.toNat < l.length := by omega
    simp [List.getD, List.getElem?_set, this]
  · have : ¬ x.toNat = y.toNat := by omega
    simp [List.getD, List.getElem?_set, this, h]
theorem mem_rd {l : List Int} {b : Int} : b ∈ l ↔ ∃ x : Int, 0 ≤ x ∧ x < (l.length : Int) ∧ b = rd l x := by
  constructor
  · intro h
    obtain ⟨i, hi, rfl⟩ := List.mem_iff_getElem.1 h
    exact ⟨i, by omega, by omega, by simp [rd, List.getD, List.getElem?_eq_getElem hi]⟩
  · rintro ⟨x, h0, h1, rfl⟩; exact rd_mem h0 h1
theorem swap_mem {l : List Int} {i j : Int} (hi0 : 0 ≤ i) (hi : i < (l.length : Int)) (hj0 : 0 ≤ j) (hj : j < (l.length : Int)) (b : Int) : b ∈ (l.set i.toNat (rd l j)).set j.toNat (rd l i) ↔ b ∈ l := by
  have hg : ∀ y : Int, 0 ≤ y → rd ((l.set i.toNat (rd l j)).set j.toNat (rd l i)) y = if y = j then rd l i else if y = i then rd l j else rd l y := by
    intro y hy
    rw [rd_set hj0 (by simp; omega) hy, rd_set hi0 hi hy]
  rw [mem_rd, mem_rd]
  simp only [List.length_set]
  constructor
  · rintro ⟨x, h0, h1, rfl⟩
    rw [hg x h0]
    by_cases e1 : x = j
    · rw [if_pos e1]; exact ⟨i, hi0, hi, rfl⟩
    · rw [if_neg e1]
      by_cases e2 : x = i
      · rw [if_pos e2]; exact ⟨j, hj0, hj, rfl⟩
      · rw [if_neg e2]; exact ⟨x, h0, h1, rfl⟩
  · rintro ⟨x, h0, h1, rfl⟩
    by_cases e1 : x = i
    · subst e1; exact ⟨j, hj0, hj, by rw [hg j hj0, if_pos rfl]⟩
    · by_cases e2 : x = j
      · subst e2
        exact ⟨i, hi0, hi, by rw [hg i hi0, if_neg (fun h => e1 h.symm), if_pos rfl]⟩
      · exact ⟨x, h0, h1, by rw [hg x h0, if_neg e2, if_neg e1]⟩
theorem Reverse_out : ∀ (k : Nat) (l : List Int) (i j : Int), 0 ≤ i → j < (l.length : Int) → l.length ≤ 1000000 → (j - i).toNat < k → i ≤ 1000000 → -10 ≤ j →
    Out (loop3 k slices_Reverse_int.b0 l i j) (fun r => r.length = l.length ∧ ∀ b, b ∈ r ↔ b ∈ l)
  | 0, l, i, j, _, _, _, h, _, _ => by omega
  | k + 1, l, i, j, h0, h1, h2, h3, h4, h5 => by
    unfold loop3
    cases hb : decide (i < j) with
    | false => exact ⟨l, by rw [slices_Reverse_int.b0, hb, cond_false], rfl, fun _ => Iff.rfl⟩
    | true =>
      simp at hb
      rw [slices_Reverse_int.b0, decide_eq_true hb, cond_true, gd (by omega), gd (by omega), gd (by omega), gd (by rw [List.length_set]; omega), gd (inR_of (by omega)), gd (inR_of (by omega))]
      refine (Reverse_out k _ (i + 1) (j - 1) (by omega) (by simp; omega) (by simpa using h2) (by omega) (by omega) (by omega)).mono fun r hr => ⟨by simpa using hr.1, fun b => ?_⟩
      rw [hr.2 b, swap_mem (by omega) (by omega) (by omega) (by omega)]
def chain (ns : List NodeType) : Nat → Int → List Int
  | 0, _ => []
  | d + 1, a => bif decide (a < 0) then [] else a :: chain ns d (rd ns a).fParent
theorem chain_neg {ns : List NodeType} {d : Nat} {a : Int} (h : a < 0) : chain ns d a = [] := by cases d <;> simp [chain, h]
theorem chain_pos {ns : List NodeType} {d : Nat} {a : Int} (h : 0 ≤ a) : chain ns (d + 1) a = a :: chain ns d (rd ns a).fParent := by
  have : decide (a < 0) = false := by simp; omega
  simp [chain, this]
def isB (ns : List NodeType) (a b : Int) : Bool := decide (b ∈ chain ns 100 a)
theorem line_out {K : Nat} (hK : 200 ≤ K) {t : Types} {n : Nat} (w : WfP t.fNodes n) : ∀ (d k : Nat) (a : Int) (acc : List Int), d < k → a < (d : Int) → a < (n : Int) → acc.length + d ≤ 150 →
    Out (loop2 k (types_line.b0 K t) a acc) (fun r => r.length ≤ 150 ∧ ∀ b, b ∈ r ↔ b ∈ acc ∨ b ∈ chain t.fNodes d a)
  | d, 0, _, _, h, _, _, _ => by omega
  | d, k + 1, a, acc, hk, hd, hn, hl => by
    unfold loop2
    rcases Int.lt_or_le a 0 with ha | ha
    · rw [types_line.b0, decide_eq_false (show ¬ a ≥ 0 by omega), cond_false, slices_Reverse_int, gd (inR_of (by omega))]
      refine Out.bind (Reverse_out K acc 0 _ (by omega) (by omega) (by omega) (by omega) (by omega) (by omega)) fun r hr => ⟨r, rfl, by omega, fun b => ?_⟩
      rw [hr.2, chain_neg ha]; simp
    · obtain ⟨d, rfl⟩ : ∃ e, d = e + 1 := ⟨d - 1, by omega⟩
      have hw := wf_at w ha hn
      have hn' := w.1
      rw [types_line.b0, decide_eq_true (show a ≥ 0 by omega), cond_true, gd (by simp [lim]; omega), gd (by omega)]
      refine (line_out hK w d k _ (acc ++ [a]) (by omega) (by omega) (by omega) (by simp; omega)).mono fun r hr => ⟨hr.1, fun b => ?_⟩
      rw [hr.2, chain_pos ha]; simp [or_assoc]
theorem types_is_eq {k : Nat} (hk : 200 ≤ k) {t : Types} {n : Nat} (w : WfP t.fNodes n) (hn : n ≤ 50) {a b : Int} (ha : a < (n : Int)) : types_is k t a b = some (isB t.fNodes a b) := by
  unfold types_is types_line
  obtain ⟨r, e, h1, h2⟩ := line_out (K := k) hk w 100 k a [] (by omega) (by omega) ha (by simp)
  rw [e, Option.bind_some, Contains_int _ _ (by omega) (by omega), Option.bind_some, anyN_mem]
  congr 1
  unfold isB
  rw [Bool.eq_iff_iff, decide_eq_true_eq, decide_eq_true_eq, h2]; simp
theorem Below1_eq {t : Types} {n : Nat} (w : WfP t.fNodes n) {b : Int} (hb : 0 ≤ b) : ∀ (d k : Nat) (a : Int), d < k → -1 ≤ a → a < (d : Int) → a < (n : Int) → ref04_Below1 k t a b = some (decide (b ∈ chain t.fNodes d a))
  | d, 0, _, h, _, _, _ => by omega
  | d, k + 1, a, hk, h1, hd, hn => by
    unfold ref04_Below1 ref04_Below1.main
    rcases Int.lt_or_le a 0 with ha | ha
    · have e1 : (a == b) = false := by simp; omega
      rw [jn, e1, cond_false, decide_eq_false (show ¬ a ≥ 0 by omega), cond_false, chain_neg ha]
      simp
    · obtain ⟨d, rfl⟩ : ∃ e, d = e + 1 := ⟨d - 1, by omega⟩
      have hw := wf_at w ha hn
      have hn' := w.1
      rw [jn, chain_pos ha]
      by_cases e : a = b
      · subst e; simp
      · have e1 : (a == b) = false := by simp [e]
        rw [e1, cond_false, decide_eq_true (show a ≥ 0 by omega), cond_true, gd (by omega), Below1_eq w hb d k _ (by omega) (by omega) (by omega) (by omega), Option.bind_some]
        congr 1
        rw [Bool.eq_iff_iff, decide_eq_true_eq, decide_eq_true_eq, List.mem_cons]
        exact ⟨.inr, fun h => h.resolve_left fun h => e h.symm⟩
theorem ref04_Below1_eq {k : Nat} (hk : 200 ≤ k) {t : Types} {n : Nat} (w : WfP t.fNodes n) (hn : n ≤ 50) {a b : Int} (h0 : 0 ≤ a) (ha : a < (n : Int)) (hb : 0 ≤ b) : ref04_Below1 k t a b = some (isB t.fNodes a b) :=
  Below1_eq w hb 100 k a (by omega) (by omega) (by omega) ha
theorem types_given_eq {k : Nat} (hk : 200 ≤ k) {t : Types} (ht : FewT t) (hv : validS t = 0) {a : Int} (h0 : 0 ≤ a) (ha : a < (t.fNodes.length : Int)) : types_given k t [a] = some 0 := by
  obtain ⟨r, e, hr⟩ := types_Valid_out hk ht
  unfold types_given
  rw [e, Option.bind_some, hr, hv]
  rw [ContainsFunc_int (k := k) [a] (fun x => types_given_1 k x t) (fun j => decide (rd [a] (j : Int) < 0) || decide (rd [a] (j : Int) ≥ (t.fNodes.length : Int))) (by simp; omega) (by simp) (fun j _ => by
    simp only [types_given_1, jn]; cases decide (rd [a] (j : Int) < 0) <;> rfl)]
  rw [anyN_none fun j _ hj => ?_]
  · rfl
  · have : j = 0 := by simp at hj; omega
    subst this
    have e : rd [a] ((0 : Nat) : Int) = a := rfl
    rw [e, decide_eq_false (by omega), decide_eq_false (by omega)]; rfl
theorem types_Below_out {k : Nat} (hk : 200 ≤ k) {t : Types} (ht : FewT t) (hv : validS t = 0) {a : Int} (h0 : 0 ≤ a) (ha : a < (t.fNodes.length : Int)) :
    Out (types_Below k t a) (fun r => r.1.length ≤ 20 ∧ ∀ b : Int, b ∈ r.1 ↔ 0 ≤ b ∧ b < (t.fNodes.length : Int) ∧ isB t.fNodes b a = true) := by
  have hn := ht.nodes
  have w := (valid_wf hv).1
  unfold types_Below
  rw [types_given_eq hk ht hv h0 ha, Option.bind_some]
  rw [show ((0 : Int) != 0) = false from rfl, cond_false]
  refine loop2_out (S := List Int) (P := fun _ _ (r : List Int × Int) => r.1.length ≤ 20 ∧ ∀ b : Int, b ∈ r.1 ↔ 0 ≤ b ∧ b < (t.fNodes.length : Int) ∧ isB t.fNodes b a = true)
    (I := fun s i => s.length ≤ i ∧ ∀ b : Int, b ∈ s ↔ 0 ≤ b ∧ b < (i : Int) ∧ isB t.fNodes b a = true) t.fNodes.length (fun s hs rec => ?_) (fun s i hi hs rec ih => ?_) k 0 [] (Nat.zero_le _) (by omega) ⟨Nat.le_refl _, fun b => ⟨fun h => by simp at h, fun h => by omega⟩⟩
  · rw [types_Below.b0, show decide ((t.fNodes.length : Int) < (t.fNodes.length : Int)) = false by simp, cond_false]
    exact ⟨_, rfl, by have := hs.1; show s.length ≤ 20; omega, hs.2⟩
  · rw [types_Below.b0, show decide ((i : Int) < (t.fNodes.length : Int)) = true by simp [hi], cond_true, types_is_eq hk w (by omega) (by omega), Option.bind_some]
    have hsl := hs.1
    cases hb : isB t.fNodes (i : Int) a with
    | true =>
      rw [cond_true, gd (by simp [lim]; omega), gd (inR_nat (n := i) (by omega))]
      refine ih _ ⟨by simp; omega, fun b => ?_⟩
      rw [List.mem_append, hs.2, List.mem_singleton]
      constructor
      · rintro (⟨h1, h2, h3⟩ | rfl)
        · exact ⟨h1, by omega, h3⟩
        · exact ⟨by omega, by omega, hb⟩
      · rintro ⟨h1, h2, h3⟩
        by_cases e : b = (i : Int)
        · exact .inr e
        · exact .inl ⟨h1, by omega, h3⟩
    | false =>
      rw [cond_false, gd (inR_nat (n := i) (by omega))]
      refine ih _ ⟨by omega, fun b => ?_⟩
      rw [hs.2]
      constructor
      · rintro ⟨h1, h2, h3⟩; exact ⟨h1, by omega, h3⟩
      · rintro ⟨h1, h2, h3⟩
        refine ⟨h1, ?_, h3⟩
        by_cases e : b = (i : Int)
        · subst e; rw [hb] at h3; cases h3
        · omega
theorem rd_append_lt {α : Type} [Inhabited α] {l m : List α} {x : Int} (h0 : 0 ≤ x) (h : x < (l.length : Int)) : rd (l ++ m) x = rd l x := by
  have : x.toNat < l.length := by omega
  simp [rd, List.getD, List.getElem?_append, this]
theorem rd_append_eq {α : Type} [Inhabited α] {l : List α} {v : α} : rd (l ++ [v]) (l.length : Int) = v := by simp [rd, List.getD]
structure Table (ns : List NodeType) (M : List (List Bool)) (i : Nat) : Prop where
  len : M.length = i
  row : ∀ a : Nat, a < i → (rd M (a : Int)).length = ns.length
  at' : ∀ a : Nat, a < i → ∀ b : Nat, b < ns.length → rd (rd M (a : Int)) (b : Int) = isB ns (b : Int) (a : Int)
theorem mem_take {l : List Int} {i : Nat} (hi : i < l.length) (b : Int) : b ∈ l.take (i + 1) ↔ b ∈ l.take i ∨ b = rd l (i : Int) := by
  have : rd l (i : Int) = l[i] := by simp [rd, List.getD, List.getElem?_eq_getElem hi]
  rw [this, List.take_succ_eq_append_getElem hi, List.mem_append, List.mem_singleton]
theorem search_below_out {k : Nat} (hk : 200 ≤ k) {t : Types} (ht : FewT t) (hv : validS t = 0) : Out (search_below k t) (fun M => Table t.fNodes M t.fNodes.length) := by
  have hn := ht.nodes
  refine loop2_out (S := List (List Bool)) (P := fun _ _ M => Table t.fNodes M t.fNodes.length) (I := fun M i => Table t.fNodes M i) t.fNodes.length (fun M hM rec => ?_) (fun M i hi hM rec ih => ?_) k 0 [] (Nat.zero_le _) (by omega)
    ⟨rfl, fun a ha => by omega, fun a ha => by omega⟩
  · rw [search_below.b0, show decide ((t.fNodes.length : Int) < (t.fNodes.length : Int)) = false by simp, cond_false]
    exact ⟨_, rfl, hM⟩
  · rw [search_below.b0, show decide ((i : Int) < (t.fNodes.length : Int)) = true by simp [hi], cond_true, gd (by simp [lim]; omega)]
    refine Out.bind (types_Below_out hk ht hv (a := (i : Int)) (by omega) (by omega)) fun r hr => ?_
    obtain ⟨hr1, hr2⟩ := hr
    refine loop2_out (S := List Bool) (P := fun _ _ M => Table t.fNodes M t.fNodes.length) (I := fun x j => x.length = t.fNodes.length ∧ ∀ b : Nat, b < t.fNodes.length → rd x (b : Int) = decide ((b : Int) ∈ r.1.take j)) r.1.length
      (fun x hx rec1 => ?_) (fun x j hj hx rec1 ih1 => ?_) k 0 (List.replicate (((t.fNodes.length : Nat) : Int)).toNat false) (Nat.zero_le _) (by omega) ⟨by simp, fun b hb => by simp [rd, List.getD, List.getElem?_replicate]; split <;> rfl⟩
    · rw [search_below.b1, show decide ((r.1.length : Int) < (r.1.length : Int)) = false by simp, cond_false, gd (by have := hM.len; simp [lim]; omega), gd (inR_nat (n := i) (by omega))]
      have hl := hM.len
      refine ih _ ⟨by simp [hl], fun a ha => ?_, fun a ha b hb => ?_⟩
      · rcases Nat.lt_succ_iff_lt_or_eq.1 ha with ha | rfl
        · rw [rd_append_lt (by omega) (by omega)]; exact hM.row a ha
        · rw [show (a : Int) = (M.length : Int) by omega, rd_append_eq]; exact hx.1
      · rcases Nat.lt_succ_iff_lt_or_eq.1 ha with ha | rfl
        · rw [rd_append_lt (by omega) (by omega)]; exact hM.at' a ha b hb
        · have e : rd (M ++ [x]) (a : Int) = x := by rw [show (a : Int) = (M.length : Int) by omega, rd_append_eq]
          rw [e, hx.2 b hb, List.take_length, Bool.eq_iff_iff, decide_eq_true_eq, hr2]
          exact ⟨fun h => h.2.2, fun h => ⟨by omega, by omega, h⟩⟩
    · have hm := (hr2 (rd r.1 (j : Int))).1 (rd_mem (by omega) (by omega))
      have hxl := hx.1
      rw [search_below.b1, show decide ((j : Int) < (r.1.length : Int)) = true by simp [hj], cond_true, gd (by omega), gd (by omega), gd (inR_nat (n := j) (by omega))]
      refine ih1 _ ⟨by simp [hxl], fun b hb => ?_⟩
      rw [rd_set (by omega) (by omega) (by omega), hx.2 b hb]
      by_cases e : (b : Int) = rd r.1 (j : Int)
      · rw [if_pos e]; symm; rw [decide_eq_true_eq, mem_take hj]; exact .inr e
      · rw [if_neg e, Bool.eq_iff_iff, decide_eq_true_eq, decide_eq_true_eq, mem_take hj]
        exact ⟨.inl, fun h => h.resolve_right e⟩
def nodeM (t : Types) (p g : Graph) (m : Morphism) (i : Nat) : Int :=
  bif decide (rd m.fNodes (i : Int) < 0) || decide (rd m.fNodes (i : Int) ≥ (g.fNodes.length : Int)) then 6 else bif isB t.fNodes (rd g.fNodes (rd m.fNodes (i : Int))) (rd p.fNodes (i : Int)) then 0 else 13
def edgeM (p g : Graph) (m : Morphism) (i : Nat) : Int :=
  bif decide (rd m.fEdges (i : Int) < 0) || decide (rd m.fEdges (i : Int) ≥ (g.fEdges.length : Int)) then 6
  else bif (rd p.fEdges (i : Int)).fType != (rd g.fEdges (rd m.fEdges (i : Int))).fType then 13
  else bif (rd m.fNodes (rd p.fEdges (i : Int)).fFrom != (rd g.fEdges (rd m.fEdges (i : Int))).fFrom) || (rd m.fNodes (rd p.fEdges (i : Int)).fTo != (rd g.fEdges (rd m.fEdges (i : Int))).fTo) then 11 else 0
def match2 (t : Types) (p g : Graph) (m : Morphism) (i : Nat) : Int := bif scan (nodeM t p g m) i m.fNodes.length != 0 then scan (nodeM t p g m) i m.fNodes.length else scan (edgeM p g m) 0 m.fEdges.length
def matchS (t : Types) (p g : Graph) (m : Morphism) : Int :=
  bif ((m.fNodes.length : Int) != (p.fNodes.length : Int)) || ((m.fEdges.length : Int) != (p.fEdges.length : Int)) then 20 else match2 t p g m 0
theorem match2_step {t : Types} {p g : Graph} {m : Morphism} {i : Nat} (hi : i < m.fNodes.length) : match2 t p g m i = bif nodeM t p g m i != 0 then nodeM t p g m i else match2 t p g m (i + 1) := by
  unfold match2; rw [scan_step hi]
  cases h : (nodeM t p g m i != 0) with
  | true => simp only [cond_true, h]
  | false => simp only [cond_false]
theorem match2_end {t : Types} {p g : Graph} {m : Morphism} : match2 t p g m m.fNodes.length = scan (edgeM p g m) 0 m.fEdges.length := by
  unfold match2; rw [scan_end]; rfl
theorem search_shape_eq {k : Nat} (hk : 200 ≤ k) {t : Types} (ht : FewT t) {p g : Graph} (f : Fine t p g) (m : Morphism) (h1 : m.fNodes.length ≤ 100) (h2 : m.fEdges.length ≤ 100) : search_shape k t p g m = some (matchS t p g m) := by
  obtain ⟨M, e, hM⟩ := search_below_out hk ht f.ok
  unfold search_shape matchS jn; dsimp only
  cases hl1 : ((m.fNodes.length : Int) != (p.fNodes.length : Int)) with
  | true => rfl
  | false =>
    cases hl2 : ((m.fEdges.length : Int) != (p.fEdges.length : Int)) with
    | true => rfl
    | false =>
      have l1 : (m.fNodes.length : Int) = (p.fNodes.length : Int) := by simpa using hl1
      have l2 : (m.fEdges.length : Int) = (p.fEdges.length : Int) := by simpa using hl2
      rw [cond_false, cond_false, e, Option.bind_some, Bool.or_false, cond_false]
      refine loop1_eq (fun i => match2 t p g m i) m.fNodes.length (fun rec => ?_) (fun i hi rec ih => ?_) (Nat.zero_le _) (by omega)
      · rw [search_shape.b0, show decide ((m.fNodes.length : Int) < (m.fNodes.length : Int)) = false by simp, cond_false, match2_end]
        refine loop1_eq (fun i => scan (edgeM p g m) i m.fEdges.length) m.fEdges.length (fun rec => ?_) (fun i hi rec ih => ?_) (Nat.zero_le _) (by omega)
        · rw [search_shape.b1, show decide ((m.fEdges.length : Int) < (m.fEdges.length : Int)) = false by simp, cond_false, scan_end]
        · rw [scan_step hi, search_shape.b1, show decide ((i : Int) < (m.fEdges.length : Int)) = true by simp [hi], cond_true, gd (by omega), edgeM]
          unfold jn; dsimp only
          have hr := f.gp.right i (by omega)
          by_cases e1 : rd m.fEdges (i : Int) < 0
          · rw [decide_eq_true e1]; rfl
          · by_cases e2 : rd m.fEdges (i : Int) ≥ (g.fEdges.length : Int)
            · rw [decide_eq_true e2, decide_eq_false e1]; rfl
            · rw [decide_eq_false e2, decide_eq_false e1, cond_false, Bool.or_false, cond_false, cond_false, gd (by omega), gd (by omega), gd (by omega), gd (inR_nat (n := i) (by omega)), gd (by omega), ih]
              cases ((rd p.fEdges (i : Int)).fType != (rd g.fEdges (rd m.fEdges (i : Int))).fType) <;> cases (rd m.fNodes (rd p.fEdges (i : Int)).fFrom != (rd g.fEdges (rd m.fEdges (i : Int))).fFrom) <;> cases (rd m.fNodes (rd p.fEdges (i : Int)).fTo != (rd g.fEdges (rd m.fEdges (i : Int))).fTo) <;> rfl
      · rw [match2_step hi, search_shape.b0, show decide ((i : Int) < (m.fNodes.length : Int)) = true by simp [hi], cond_true, gd (by omega), nodeM]
        unfold jn; dsimp only
        by_cases e1 : rd m.fNodes (i : Int) < 0
        · rw [decide_eq_true e1]; rfl
        · by_cases e2 : rd m.fNodes (i : Int) ≥ (g.fNodes.length : Int)
          · rw [decide_eq_true e2, decide_eq_false e1]; rfl
          · have a1 := f.gp.kind i (by omega)
            have a2 := typedB_node f.tp (j := i) (by omega)
            have a3 := f.gg.kind (rd m.fNodes (i : Int)).toNat (by omega)
            have a4 := typedB_node f.tg (j := (rd m.fNodes (i : Int)).toNat) (by omega)
            rw [Int.toNat_of_nonneg (by omega)] at a3 a4
            have b1 := hM.row (rd p.fNodes (i : Int)).toNat (by omega)
            have b2 := hM.at' (rd p.fNodes (i : Int)).toNat (by omega) (rd g.fNodes (rd m.fNodes (i : Int))).toNat (by omega)
            rw [Int.toNat_of_nonneg (by omega)] at b1 b2
            rw [Int.toNat_of_nonneg (by omega)] at b2
            have b3 := hM.len
            rw [decide_eq_false e2, decide_eq_false e1, cond_false, Bool.or_false, cond_false, cond_false, gd (by omega), gd (by omega), gd (by omega), gd (by omega), b2, gd (inR_nat (n := i) (by omega)), ih]
            cases isB t.fNodes (rd g.fNodes (rd m.fNodes (i : Int))) (rd p.fNodes (i : Int)) <;> rfl
structure InstP (p g : Graph) (m : Morphism) (r : Graph × Int) : Prop where
  ok : r.2 = 0
  edges : r.1.fEdges = p.fEdges
  len : r.1.fNodes.length = m.fNodes.length
  at' : ∀ j : Nat, j < m.fNodes.length → rd r.1.fNodes (j : Int) = rd g.fNodes (rd m.fNodes (j : Int))
theorem nodeM_in {t : Types} {p g : Graph} {m : Morphism} {i : Nat} (h : nodeM t p g m i = 0) : 0 ≤ rd m.fNodes (i : Int) ∧ rd m.fNodes (i : Int) < (g.fNodes.length : Int) := by
  unfold nodeM at h
  cases hb : decide (rd m.fNodes (i : Int) < 0) || decide (rd m.fNodes (i : Int) ≥ (g.fNodes.length : Int)) with
  | true => rw [hb] at h; cases h
  | false => simp only [Bool.or_eq_false_iff, decide_eq_false_iff_not] at hb; omega
theorem matchS_zero {t : Types} {p g : Graph} {m : Morphism} (h : matchS t p g m = 0) :
    m.fNodes.length = p.fNodes.length ∧ m.fEdges.length = p.fEdges.length ∧ (∀ i, i < m.fNodes.length → nodeM t p g m i = 0) ∧ (∀ i, i < m.fEdges.length → edgeM p g m i = 0) := by
  unfold matchS match2 at h
  cases hb : ((m.fNodes.length : Int) != (p.fNodes.length : Int)) || ((m.fEdges.length : Int) != (p.fEdges.length : Int)) with
  | true => rw [hb] at h; cases h
  | false =>
    rw [hb, cond_false] at h
    simp only [Bool.or_eq_false_iff, bne_eq_false_iff_eq] at hb
    cases hz : (scan (nodeM t p g m) 0 m.fNodes.length != 0) with
    | true => rw [hz, cond_true] at h; rw [h] at hz; cases hz
    | false =>
      rw [hz, cond_false] at h
      exact ⟨by omega, by omega, fun i hi => scan_zero (by simpa using hz) i (Nat.zero_le _) hi, fun i hi => scan_zero h i (Nat.zero_le _) hi⟩
theorem SameInts_eq {k : Nat} {a b : List Int} (hk : a.length < k) (ha : a.length ≤ 1000000) (hl : a.length = b.length) (h : ∀ j : Nat, j < a.length → rd a (j : Int) = rd b (j : Int)) : ref05_SameInts k a b = some true := by
  have e : ((a.length : Int) != (b.length : Int)) = false := by simp [hl]
  unfold ref05_SameInts
  rw [e, cond_false]
  refine loop1_eq (fun _ => true) a.length (fun rec => ?_) (fun i hi rec ih => ?_) (Nat.zero_le _) (by omega)
  · rw [ref05_SameInts.b0, show decide ((a.length : Int) < (a.length : Int)) = false by simp, cond_false]
  · rw [ref05_SameInts.b0, show decide ((i : Int) < (a.length : Int)) = true by simp [hi], cond_true, gd (by omega), gd (by omega), h i hi, bne_self_eq_false, cond_false, gd (inR_nat (n := i) (by omega)), ih]
structure Pb where
  p : Graph
  g : Graph
  ns : List NodeType
  pn : Int → Int
  pe : Int → Int
  inj : Bool
def eqE (q : Pb) (l : List Int) (i k : Int) : Bool :=
  ((rd q.p.fEdges i).fType == (rd q.g.fEdges k).fType) && (((rd q.g.fEdges k).fFrom == rd l (rd q.p.fEdges i).fFrom) && ((rd q.g.fEdges k).fTo == rd l (rd q.p.fEdges i).fTo))
def fitE (q : Pb) (l : List Int) (i k : Int) : Bool := !(decide (q.pe i ≥ 0) && (q.pe i != k)) && eqE q l i k
def okE (q : Pb) (l e : List Int) (k : Int) : Bool := fitE q l (e.length : Int) k && !(q.inj && decide (k ∈ e))
def okN (q : Pb) (l : List Int) (n : Int) : Bool :=
  !(decide (q.pn (l.length : Int) ≥ 0) && (q.pn (l.length : Int) != n)) && (isB q.ns (rd q.g.fNodes n) (rd q.p.fNodes (l.length : Int)) && !(q.inj && decide (n ∈ l)))
def edgesL (q : Pb) (l : List Int) : Nat → List Int → List Morphism
  | 0, e => [⟨l, e⟩]
  | d + 1, e => (List.range q.g.fEdges.length).flatMap fun (k : Nat) => if okE q l e (k : Int) = true then edgesL q l d (e ++ [(k : Int)]) else []
def nodesL (q : Pb) : Nat → List Int → List Morphism
  | 0, l => edgesL q l q.p.fEdges.length []
  | d + 1, l => (List.range q.g.fNodes.length).flatMap fun (n : Nat) => if okN q l (n : Int) = true then nodesL q d (l ++ [(n : Int)]) else []
def cut (N : Nat) (o L : List Morphism) : List Morphism := (o ++ L).take N
theorem cut_len {N : Nat} {o L : List Morphism} : (cut N o L).length ≤ N := by simp [cut]; omega
theorem cut_nil {N : Nat} {o : List Morphism} (h : o.length ≤ N) : cut N o [] = o := by unfold cut; rw [List.append_nil, List.take_of_length_le h]
theorem cut_full {N : Nat} {o L : List Morphism} (h : o.length = N) : cut N o L = o := by simp [cut, ← h]
theorem cut_cut {N : Nat} {o A B : List Morphism} : cut N (cut N o A) B = cut N o (A ++ B) := by
  unfold cut
  rw [← List.append_assoc]
  generalize o ++ A = X
  rcases Nat.lt_or_ge X.length N with h | h
  · rw [List.take_of_length_le (l := X) (by omega)]
  · rw [List.take_append_of_le_length (l₁ := X) h, List.take_append_of_le_length (by simp; omega), List.take_take, Nat.min_self]
theorem cut_one {N : Nat} {o : List Morphism} {m : Morphism} (h : o.length + 1 ≤ N) : cut N o [m] = o ++ [m] := by unfold cut; rw [List.take_of_length_le (by simpa using h)]
theorem flat_succ {f : Nat → List Morphism} {i : Nat} : (List.range (i + 1)).flatMap f = (List.range i).flatMap f ++ f i := by simp [List.range_succ, List.flatMap_append]
theorem edgesL_fit {q : Pb} {l : List Int} : ∀ (d : Nat) (e : List Int) (m : Morphism), m ∈ edgesL q l d e → m.fNodes = l ∧ ∀ i, e.length ≤ i → i < e.length + d → ∃ k, k < q.g.fEdges.length ∧ fitE q l (i : Int) (k : Int) = true
  | 0, e, m, h => by
    simp [edgesL] at h; subst h
    exact ⟨rfl, fun i h1 h2 => by omega⟩
  | d + 1, e, m, h => by
    simp only [edgesL, List.mem_flatMap, List.mem_range] at h
    obtain ⟨k, hk, h⟩ := h
    by_cases ok : okE q l e (k : Int) = true
    · rw [if_pos ok] at h
      obtain ⟨h1, h2⟩ := edgesL_fit d _ m h
      refine ⟨h1, fun i h3 h4 => ?_⟩
      rcases Nat.eq_or_lt_of_le h3 with rfl | h5
      · simp only [okE, Bool.and_eq_true] at ok
        exact ⟨k, hk, ok.1⟩
      · exact h2 i (by simp; omega) (by simp; omega)
    · rw [if_neg ok] at h; cases h
theorem nodesL_fit {q : Pb} : ∀ (d : Nat) (l : List Int) (m : Morphism), m ∈ nodesL q d l → (∃ s, m.fNodes = l ++ s) ∧ ∀ i, i < q.p.fEdges.length → ∃ k, k < q.g.fEdges.length ∧ fitE q m.fNodes (i : Int) (k : Int) = true
  | 0, l, m, h => by
    obtain ⟨h1, h2⟩ := edgesL_fit _ _ m h
    refine ⟨⟨[], by simp [h1]⟩, fun i hi => ?_⟩
    rw [h1]; exact h2 i (by simp) (by simpa using hi)
  | d + 1, l, m, h => by
    simp only [nodesL, List.mem_flatMap, List.mem_range] at h
    obtain ⟨n, hn, h⟩ := h
    by_cases ok : okN q l (n : Int) = true
    · rw [if_pos ok] at h
      obtain ⟨⟨s, hs⟩, h2⟩ := nodesL_fit d _ m h
      exact ⟨⟨(n : Int) :: s, by rw [hs]; simp⟩, h2⟩
    · rw [if_neg ok] at h; cases h
theorem nodesL_none {q : Pb} {d : Nat} {l : List Int} {i : Nat} (hi : i < q.p.fEdges.length) (h1 : 0 ≤ (rd q.p.fEdges (i : Int)).fFrom ∧ (rd q.p.fEdges (i : Int)).fFrom < (l.length : Int)) (h2 : 0 ≤ (rd q.p.fEdges (i : Int)).fTo ∧ (rd q.p.fEdges (i : Int)).fTo < (l.length : Int))
    (hno : ∀ k, k < q.g.fEdges.length → fitE q l (i : Int) (k : Int) = false) : nodesL q d l = [] := by
  cases hL : nodesL q d l with
  | nil => rfl
  | cons m L =>
    exfalso
    obtain ⟨⟨s, hs⟩, hf⟩ := nodesL_fit d l m (by rw [hL]; simp)
    obtain ⟨k, hk, h⟩ := hf i hi
    have := hno k hk
    unfold fitE eqE at h this
    rw [hs, rd_append_lt h1.1 h1.2, rd_append_lt h2.1 h2.2, this] at h
    cases h
theorem loop4_eq {R : Type} {b : (List Int → List Int → List Morphism → Int → Option R) → List Int → List Int → List Morphism → Int → Option R} {l e : List Int} (G : Nat → List Morphism) (r : R) (n : Nat)
    (hend : ∀ rec, b rec l e (G n) (n : Int) = some r)
    (hstep : ∀ i, i < n → ∀ rec : List Int → List Int → List Morphism → Int → Option R, rec l e (G (i + 1)) ((i : Int) + 1) = some r → b rec l e (G i) (i : Int) = some r) :
    ∀ k i : Nat, i ≤ n → n < k + i → loop4 k b l e (G i) (i : Int) = some r
  | 0, i, h, hk => by omega
  | k + 1, i, h, hk => by
    rcases Nat.lt_or_ge i n with hl | hl
    · refine hstep i hl _ ?_
      have := loop4_eq G r n hend hstep k (i + 1) hl (by omega)
      simpa using this
    · have : i = n := by omega
      subst this
      exact hend _
theorem loop2_eq {S R : Type} {b : (S → Int → Option R) → S → Int → Option R} (G : Nat → S) (r : R) (n : Nat)
    (hend : ∀ rec, b rec (G n) (n : Int) = some r)
    (hstep : ∀ i, i < n → ∀ rec : S → Int → Option R, rec (G (i + 1)) ((i : Int) + 1) = some r → b rec (G i) (i : Int) = some r) :
    ∀ k i : Nat, i ≤ n → n < k + i → loop2 k b (G i) (i : Int) = some r
  | 0, i, h, hk => by omega
  | k + 1, i, h, hk => by
    rcases Nat.lt_or_ge i n with hl | hl
    · refine hstep i hl _ ?_
      have := loop2_eq G r n hend hstep k (i + 1) hl (by omega)
      simpa using this
    · have : i = n := by omega
      subst this
      exact hend _
def pO (o : Option (List Int)) (i : Int) : Int := match o with
  | none => -1
  | some l => rd l i
theorem search_given_eq {k : Nat} {o : Option (List Int)} {i : Int} (h0 : 0 ≤ i) (h : ∀ l, o = some l → i < (l.length : Int)) : search_given k o i = some (pO o i) := by
  cases o with
  | none => rfl
  | some l => unfold search_given; exact gd ⟨h0, h l rfl⟩ _
structure Ctx (q : Pb) : Prop where
  gp : GoodG q.p
  gg : GoodG q.g
  tp : ∀ j : Nat, j < q.p.fNodes.length → rd q.p.fNodes (j : Int) < (q.ns.length : Int)
  tg : ∀ j : Nat, j < q.g.fNodes.length → rd q.g.fNodes (j : Int) < (q.ns.length : Int)
  wf : WfP q.ns q.ns.length
  few : q.ns.length ≤ 50
theorem Ctx.p_kind {q : Pb} (c : Ctx q) {x : Int} (h0 : 0 ≤ x) (h : x < (q.p.fNodes.length : Int)) : 0 ≤ rd q.p.fNodes x ∧ rd q.p.fNodes x < (q.ns.length : Int) := by
  have a := c.gp.kind x.toNat (by omega); have b := c.tp x.toNat (by omega)
  rw [Int.toNat_of_nonneg h0] at a b; exact ⟨a.1, b⟩
theorem Ctx.g_kind {q : Pb} (c : Ctx q) {x : Int} (h0 : 0 ≤ x) (h : x < (q.g.fNodes.length : Int)) : 0 ≤ rd q.g.fNodes x ∧ rd q.g.fNodes x < (q.ns.length : Int) := by
  have a := c.gg.kind x.toNat (by omega); have b := c.tg x.toNat (by omega)
  rw [Int.toNat_of_nonneg h0] at a b; exact ⟨a.1, b⟩
structure FinP (q : Pb) (M : List (List Bool)) (part : OMorphism) : Prop where
  tab : Table q.ns M q.ns.length
  pn : ∀ i : Nat, i < q.p.fNodes.length → pO part.fNodes (i : Int) = q.pn (i : Int) ∧ ∀ l, part.fNodes = some l → (i : Int) < (l.length : Int)
  pe : ∀ i : Nat, i < q.p.fEdges.length → pO part.fEdges (i : Int) = q.pe (i : Int) ∧ ∀ l, part.fEdges = some l → (i : Int) < (l.length : Int)
theorem FinP.table {q : Pb} {M : List (List Bool)} {part : OMorphism} (f : FinP q M part) {a b : Int} (ha : 0 ≤ a ∧ a < (q.ns.length : Int)) (hb : 0 ≤ b ∧ b < (q.ns.length : Int)) :
    a < (M.length : Int) ∧ b < ((rd M a).length : Int) ∧ rd (rd M a) b = isB q.ns b a := by
  have h1 := f.tab.len
  have h2 := f.tab.row a.toNat (by omega)
  have h3 := f.tab.at' a.toNat (by omega) b.toNat (by omega)
  rw [Int.toNat_of_nonneg ha.1] at h2 h3
  rw [Int.toNat_of_nonneg hb.1] at h3
  exact ⟨by omega, by omega, h3⟩
theorem fits_eq {k : Nat} {q : Pb} (c : Ctx q) {M : List (List Bool)} {part : OMorphism} (f : FinP q M part) {N : Int} {l e : List Int} {o : List Morphism} {i j : Nat} (hi : i < q.p.fEdges.length) (hj : j < q.g.fEdges.length)
    (h1 : (rd q.p.fEdges (i : Int)).fFrom < (l.length : Int)) (h2 : (rd q.p.fEdges (i : Int)).fTo < (l.length : Int)) : search_finder_fits k (Finder.mk q.p q.g M part q.inj N l e o) (i : Int) (j : Int) = some (fitE q l (i : Int) (j : Int)) := by
  have hr := c.gp.right i hi
  unfold search_finder_fits jn; dsimp only
  rw [gd (by omega), search_given_eq (by omega) (f.pe i hi).2, Option.bind_some, (f.pe i hi).1, gd (by omega), gd (by omega), gd (by omega)]
  have h3 : ([(rd q.g.fEdges (j : Int)).fType, (rd q.g.fEdges (j : Int)).fFrom, (rd q.g.fEdges (j : Int)).fTo] == [(rd q.p.fEdges (i : Int)).fType, rd l (rd q.p.fEdges (i : Int)).fFrom, rd l (rd q.p.fEdges (i : Int)).fTo]) = eqE q l (i : Int) (j : Int) := by
    rw [Bool.eq_iff_iff]
    simp only [eqE, beq_iff_eq, List.cons.injEq, and_true, Bool.and_eq_true]
    exact ⟨fun ⟨a, b, c⟩ => ⟨a.symm, b, c⟩, fun ⟨a, b, c⟩ => ⟨a.symm, b, c⟩⟩
  rw [h3]; unfold fitE
  cases decide (q.pe (i : Int) ≥ 0) <;> cases (q.pe (i : Int) != (j : Int)) <;> rfl
def badP (q : Pb) (l : List Int) (i : Nat) : Bool :=
  !((if (rd q.p.fEdges (i : Int)).fTo > (rd q.p.fEdges (i : Int)).fFrom then (rd q.p.fEdges (i : Int)).fTo else (rd q.p.fEdges (i : Int)).fFrom) != ((l.length : Int) - 1)) && !anyN (fun j => fitE q l (i : Int) (j : Int)) 0 q.g.fEdges.length
theorem possible_eq {k : Nat} (hk : 150 ≤ k) {q : Pb} (c : Ctx q) {M : List (List Bool)} {part : OMorphism} (f : FinP q M part) {N : Int} {l e : List Int} {o : List Morphism} (hl : l.length ≤ 100) :
    search_finder_possible k (Finder.mk q.p q.g M part q.inj N l e o) = some (!anyN (badP q l) 0 q.p.fEdges.length) := by
  have hpe := c.gp.edges; have hge := c.gg.edges
  unfold search_finder_possible; dsimp only
  rw [gd (inR_of (by omega))]
  refine loop1_eq (fun i => !anyN (badP q l) i q.p.fEdges.length) q.p.fEdges.length (fun rec => ?_) (fun i hi rec ih => ?_) (Nat.zero_le _) (by omega)
  · simp only [search_finder_possible.b0, show decide ((q.p.fEdges.length : Int) < (q.p.fEdges.length : Int)) = false by simp, cond_false, anyN_end, Bool.not_false]
  · have hr := c.gp.right i hi
    rw [anyN_step hi, search_finder_possible.b0]; dsimp only
    rw [show decide ((i : Int) < (q.p.fEdges.length : Int)) = true by simp [hi], cond_true, gd (by omega), gd (inR_nat (n := i) (by omega)), ih]
    unfold badP
    cases hm : ((if (rd q.p.fEdges (i : Int)).fTo > (rd q.p.fEdges (i : Int)).fFrom then (rd q.p.fEdges (i : Int)).fTo else (rd q.p.fEdges (i : Int)).fFrom) != ((l.length : Int) - 1)) with
    | true => simp
    | false =>
      have hm' : (if (rd q.p.fEdges (i : Int)).fTo > (rd q.p.fEdges (i : Int)).fFrom then (rd q.p.fEdges (i : Int)).fTo else (rd q.p.fEdges (i : Int)).fFrom) = (l.length : Int) - 1 := by simpa using hm
      have hb : (rd q.p.fEdges (i : Int)).fFrom < (l.length : Int) ∧ (rd q.p.fEdges (i : Int)).fTo < (l.length : Int) := by
        split at hm' <;> omega
      rw [cond_false, Bool.not_false, Bool.true_and]
      have h5 : loop1 k (search_finder_possible.b1 k (Finder.mk q.p q.g M part q.inj N l e o) (i : Int) rec) ((0 : Nat) : Int) = some (anyN (fun j => fitE q l (i : Int) (j : Int)) 0 q.g.fEdges.length && !anyN (badP q l) (i + 1) q.p.fEdges.length) := by
        refine loop1_eq (fun j => anyN (fun j => fitE q l (i : Int) (j : Int)) j q.g.fEdges.length && !anyN (badP q l) (i + 1) q.p.fEdges.length) q.g.fEdges.length (fun rec1 => ?_) (fun j hj rec1 ih1 => ?_) (Nat.zero_le _) (by omega)
        · simp only [search_finder_possible.b1, show decide ((q.g.fEdges.length : Int) < (q.g.fEdges.length : Int)) = false by simp, cond_false, anyN_end, Bool.false_and]
        · rw [anyN_step hj, search_finder_possible.b1]; dsimp only
          rw [show decide ((j : Int) < (q.g.fEdges.length : Int)) = true by simp [hj], cond_true, fits_eq c f hi hj hb.1 hb.2, Option.bind_some, gd (inR_nat (n := i) (by omega)), gd (inR_nat (n := j) (by omega)), ih, ih1]
          cases fitE q l (i : Int) (j : Int) with
          | true => rw [cond_true, Bool.true_or, Bool.true_and]
          | false => rw [cond_false, Bool.false_or]
      have h6 : loop1 k (search_finder_possible.b1 k (Finder.mk q.p q.g M part q.inj N l e o) (i : Int) rec) 0 = _ := h5
      rw [h6, Bool.not_or, Bool.not_not]; rfl
theorem badP_none {q : Pb} (c : Ctx q) {d : Nat} {l : List Int} (h : anyN (badP q l) 0 q.p.fEdges.length = true) : nodesL q d l = [] := by
  obtain ⟨i, _, hi, hb⟩ := anyN_iff.1 h
  have hr := c.gp.right i hi
  simp only [badP, Bool.and_eq_true, Bool.not_eq_true', bne_eq_false_iff_eq] at hb
  obtain ⟨hm, hf⟩ := hb
  have hb : (rd q.p.fEdges (i : Int)).fFrom < (l.length : Int) ∧ (rd q.p.fEdges (i : Int)).fTo < (l.length : Int) := by
    split at hm <;> omega
  exact nodesL_none hi ⟨hr.2.1.1, hb.1⟩ ⟨hr.2.2.1, hb.2⟩ fun k hk => anyN_false hf k (Nat.zero_le _) hk
theorem find_edges {q : Pb} (c : Ctx q) {M : List (List Bool)} {part : OMorphism} (f : FinP q M part) {N : Nat} (hN : N ≤ 6000) {l : List Int} (hl : l.length = q.p.fNodes.length) :
    ∀ (d k : Nat) (e : List Int) (o : List Morphism), e.length + d = q.p.fEdges.length → 151 + d ≤ k → o.length ≤ N → search_finder_find k (Finder.mk q.p q.g M part q.inj (N : Int) l e o) = some (l, e, cut N o (edgesL q l d e))
  | d, 0, _, _, _, h, _ => by omega
  | d, k + 1, e, o, he, hk, ho => by
    have hpn := c.gp.nodes; have hpe := c.gp.edges; have hge := c.gg.edges
    unfold search_finder_find search_finder_find.main jn; dsimp only
    cases hb : ((o.length : Int) == (N : Int)) with
    | true =>
      have : (o.length : Int) = (N : Int) := by simpa using hb
      rw [cond_true, cut_full (by omega)]
    | false =>
      have hne : (o.length : Int) ≠ (N : Int) := by simpa using hb
      rw [cond_false, decide_eq_false (show ¬ (l.length : Int) < (q.p.fNodes.length : Int) by omega), cond_false]
      cases d with
      | zero =>
        rw [decide_eq_false (show ¬ (e.length : Int) < (q.p.fEdges.length : Int) by omega), cond_false, slices_Clone_int, if_pos (by simp [lim]; omega), Option.bind_some, slices_Clone_int, if_pos (by simp [lim]; omega), Option.bind_some, gd (by simp [lim]; omega)]
        rw [edgesL, cut_one (by omega)]
      | succ d =>
        rw [decide_eq_true (show (e.length : Int) < (q.p.fEdges.length : Int) by omega), cond_true]
        have h5 := loop4_eq (b := search_finder_find.b1 k (search_finder_find k) (Finder.mk q.p q.g M part q.inj (N : Int) l e o) (fun y9 y10 y11 => some (y9, y10, y11))) (l := l) (e := e)
          (fun i => cut N o ((List.range i).flatMap fun (k : Nat) => if okE q l e (k : Int) = true then edgesL q l d (e ++ [(k : Int)]) else [])) (l, e, cut N o (edgesL q l (d + 1) e)) q.g.fEdges.length (fun rec => ?_) (fun i hi rec ih => ?_) k 0 (Nat.zero_le _) (by omega)
        · have e0 : cut N o ((List.range 0).flatMap fun (k : Nat) => if okE q l e (k : Int) = true then edgesL q l d (e ++ [(k : Int)]) else []) = o := cut_nil ho
          rw [e0] at h5
          exact h5
        · rw [search_finder_find.b1]; dsimp only
          rw [show decide ((q.g.fEdges.length : Int) < (q.g.fEdges.length : Int)) = false by simp, cond_false]
          rfl
        · rw [flat_succ, ← cut_cut] at ih
          generalize hG : cut N o ((List.range i).flatMap fun (k : Nat) => if okE q l e (k : Int) = true then edgesL q l d (e ++ [(k : Int)]) else []) = G at *
          have hGl : G.length ≤ N := by rw [← hG]; exact cut_len
          have hr := c.gp.right e.length (by omega)
          rw [search_finder_find.b1]; unfold jn; dsimp only
          rw [show decide ((i : Int) < (q.g.fEdges.length : Int)) = true by simp [hi], cond_true, fits_eq c f (by omega) hi (by omega) (by omega), Option.bind_some, Contains_int _ _ (by omega) (by omega), anyN_mem]
          have hno : okE q l e (i : Int) = false → (if inR ((i : Int) + 1) then rec l e G ((i : Int) + 1) else none) = some (l, e, cut N o (edgesL q l (d + 1) e)) := fun h => by
            rw [gd (inR_nat (n := i) (by omega))]
            rw [if_neg (by rw [h]; simp), cut_nil hGl] at ih
            exact ih
          have hyes : okE q l e (i : Int) = true → (if e.length + [(i : Int)].length ≤ lim then ((search_finder_find k (Finder.mk q.p q.g M part q.inj (N : Int) l (e ++ [(i : Int)]) G)).bind fun t7008 => (if (0 : Int) ≤ (e.length : Int) ∧ (e.length : Int) ≤ (t7008.2.1.length : Int) then (if inR ((i : Int) + 1) then (rec t7008.1 (t7008.2.1.take ((e.length : Int) : Int).toNat) t7008.2.2 ((i : Int) + 1)) else none) else none)) else none) = some (l, e, cut N o (edgesL q l (d + 1) e)) := fun h => by
            rw [gd (by simp [lim]; omega), find_edges c f hN hl d k (e ++ [(i : Int)]) G (by simp; omega) (by omega) hGl, Option.bind_some, gd (by rw [List.length_append]; simp; omega), gd (inR_nat (n := i) (by omega))]
            rw [if_pos h] at ih
            rw [show (e ++ [(i : Int)]).take ((e.length : Int)).toNat = e by simp]
            exact ih
          have key : ∀ A B : Option (List Int × List Int × List Morphism), (bif !fitE q l (e.length : Int) (i : Int) then (bif true then A else B) else (bif q.inj then ((some (decide ((i : Int) ∈ e))).bind fun t => (bif t then A else B)) else (bif false then A else B))) = bif okE q l e (i : Int) then B else A := fun A B => by
            unfold okE
            cases fitE q l (e.length : Int) (i : Int) <;> cases q.inj <;> cases decide ((i : Int) ∈ e) <;> rfl
          rw [key]
          cases hz : okE q l e (i : Int) with
          | false => rw [cond_false]; exact hno hz
          | true => rw [cond_true]; exact hyes hz
theorem find_nodes {q : Pb} (c : Ctx q) {M : List (List Bool)} {part : OMorphism} (f : FinP q M part) {N : Nat} (hN : N ≤ 6000) :
    ∀ (d k : Nat) (l : List Int) (o : List Morphism), l.length + d = q.p.fNodes.length → 152 + q.p.fEdges.length + d ≤ k → o.length ≤ N → search_finder_find k (Finder.mk q.p q.g M part q.inj (N : Int) l [] o) = some (l, [], cut N o (nodesL q d l))
  | 0, k, l, o, hl, hk, ho => find_edges c f hN (by omega) q.p.fEdges.length k [] o (by simp) (by omega) ho
  | d + 1, 0, _, _, _, h, _ => by omega
  | d + 1, k + 1, l, o, hl, hk, ho => by
    have hpn := c.gp.nodes; have hpe := c.gp.edges; have hge := c.gg.edges; have hgn := c.gg.nodes
    unfold search_finder_find search_finder_find.main jn; dsimp only
    cases hb : ((o.length : Int) == (N : Int)) with
    | true =>
      have : (o.length : Int) = (N : Int) := by simpa using hb
      rw [cond_true, cut_full (by omega)]
    | false =>
      have hne : (o.length : Int) ≠ (N : Int) := by simpa using hb
      rw [cond_false, decide_eq_true (show (l.length : Int) < (q.p.fNodes.length : Int) by omega), cond_true]
      have h5 := loop4_eq (b := search_finder_find.b0 k (search_finder_find k) (Finder.mk q.p q.g M part q.inj (N : Int) l [] o) (fun y9 y10 y11 => some (y9, y10, y11))) (l := l) (e := [])
        (fun i => cut N o ((List.range i).flatMap fun (k : Nat) => if okN q l (k : Int) = true then nodesL q d (l ++ [(k : Int)]) else [])) (l, [], cut N o (nodesL q (d + 1) l)) q.g.fNodes.length (fun rec => ?_) (fun i hi rec ih => ?_) k 0 (Nat.zero_le _) (by omega)
      · have e0 : cut N o ((List.range 0).flatMap fun (k : Nat) => if okN q l (k : Int) = true then nodesL q d (l ++ [(k : Int)]) else []) = o := cut_nil ho
        rw [e0] at h5
        exact h5
      · rw [search_finder_find.b0]; dsimp only
        rw [show decide ((q.g.fNodes.length : Int) < (q.g.fNodes.length : Int)) = false by simp, cond_false]
        rfl
      · rw [flat_succ, ← cut_cut] at ih
        generalize hG : cut N o ((List.range i).flatMap fun (k : Nat) => if okN q l (k : Int) = true then nodesL q d (l ++ [(k : Int)]) else []) = G at *
        have hGl : G.length ≤ N := by rw [← hG]; exact cut_len
        have hpk := c.p_kind (x := (l.length : Int)) (by omega) (by omega)
        have hgk := c.g_kind (x := (i : Int)) (by omega) (by omega)
        obtain ⟨ht1, ht2, ht3⟩ := f.table hpk hgk
        rw [search_finder_find.b0]; unfold jn; dsimp only
        rw [show decide ((i : Int) < (q.g.fNodes.length : Int)) = true by simp [hi], cond_true, gd (by omega), search_given_eq (by omega) (f.pn l.length (by omega)).2, Option.bind_some, (f.pn l.length (by omega)).1, Contains_int _ _ (by omega) (by omega), anyN_mem,
          gd (show (0 : Int) ≤ (l.length : Int) ∧ (l.length : Int) < (q.p.fNodes.length : Int) by omega), gd (show 0 ≤ rd q.p.fNodes (l.length : Int) ∧ rd q.p.fNodes (l.length : Int) < (M.length : Int) from ⟨hpk.1, ht1⟩),
          gd (show 0 ≤ rd q.g.fNodes (i : Int) ∧ rd q.g.fNodes (i : Int) < ((rd M (rd q.p.fNodes (l.length : Int))).length : Int) from ⟨hgk.1, ht2⟩), ht3]
        have key : ∀ A B : Option (List Int × List Int × List Morphism), (bif decide (q.pn (l.length : Int) ≥ 0) then (bif q.pn (l.length : Int) != (i : Int) then (bif true then A else B) else (bif !isB q.ns (rd q.g.fNodes (i : Int)) (rd q.p.fNodes (l.length : Int)) then (bif true then A else B) else (bif q.inj then ((some (decide ((i : Int) ∈ l))).bind fun t => (bif t then A else B)) else (bif false then A else B))))
            else (bif !isB q.ns (rd q.g.fNodes (i : Int)) (rd q.p.fNodes (l.length : Int)) then (bif true then A else B) else (bif q.inj then ((some (decide ((i : Int) ∈ l))).bind fun t => (bif t then A else B)) else (bif false then A else B)))) = bif okN q l (i : Int) then B else A := fun A B => by
          unfold okN
          cases decide (q.pn (l.length : Int) ≥ 0) <;> cases (q.pn (l.length : Int) != (i : Int)) <;> cases isB q.ns (rd q.g.fNodes (i : Int)) (rd q.p.fNodes (l.length : Int)) <;> cases q.inj <;> cases decide ((i : Int) ∈ l) <;> rfl
        rw [key]
        cases hz : okN q l (i : Int) with
        | false =>
          rw [cond_false, gd (inR_nat (n := i) (by omega))]
          rw [if_neg (by rw [hz]; simp), cut_nil hGl] at ih
          exact ih
        | true =>
          have htk : (l ++ [(i : Int)]).take ((l.length : Int)).toNat = l := by simp
          have hle : (0 : Int) ≤ (l.length : Int) ∧ (l.length : Int) ≤ ((l ++ [(i : Int)]).length : Int) := by rw [List.length_append]; simp; omega
          rw [cond_true, gd (by simp [lim]; omega), possible_eq (by omega) c f (by simp; omega), Option.bind_some]
          rw [if_pos hz] at ih
          cases hp : anyN (badP q (l ++ [(i : Int)])) 0 q.p.fEdges.length with
          | true =>
            rw [Bool.not_true, cond_false, gd hle, gd (inR_nat (n := i) (by omega)), htk]
            rw [badP_none c hp, cut_nil hGl] at ih
            exact ih
          | false =>
            rw [Bool.not_false, cond_true, find_nodes c f hN d k (l ++ [(i : Int)]) G (by simp; omega) (by omega) hGl, Option.bind_some, gd hle, gd (inR_nat (n := i) (by omega)), htk]
            exact ih
theorem used_eq {k : Nat} {S : Search} {l : List Int} {n : Int} (hk : l.length < k) (hl : l.length ≤ 1000000) : ref17_search_used k S l n = some (S.finjective && decide (n ∈ l)) := by
  have h : ref17_search_used k S l n = some (S.finjective && anyN (fun j => rd l (j : Int) == n) 0 l.length) := by
    refine loop1_eq (fun i => S.finjective && anyN (fun j => rd l (j : Int) == n) i l.length) l.length (fun rec => ?_) (fun i hi rec ih => ?_) (Nat.zero_le _) (by omega)
    · rw [ref17_search_used.b0]; unfold jn; dsimp only
      rw [show decide ((l.length : Int) < (l.length : Int)) = false by simp, cond_false, cond_false, anyN_end, Bool.and_false]
    · rw [anyN_step hi, ref17_search_used.b0]; unfold jn; dsimp only
      rw [show decide ((i : Int) < (l.length : Int)) = true by simp [hi], cond_true, gd (by omega), gd (inR_nat (n := i) (by omega)), ih]
      cases S.finjective <;> cases (rd l (i : Int) == n) <;> rfl
  rw [h, anyN_congr (q := fun j => n == rd l (j : Int)) (fun j _ _ => Bool.beq_comm), anyN_mem]
def badR (q : Pb) (l : List Int) (i : Nat) : Bool :=
  !(decide ((rd q.p.fEdges (i : Int)).fFrom ≥ (l.length : Int)) || decide ((rd q.p.fEdges (i : Int)).fTo ≥ (l.length : Int))) && !anyN (fun j => eqE q l (i : Int) (j : Int)) 0 q.g.fEdges.length
theorem ref_fits_eq {k : Nat} (hk : 150 ≤ k) {q : Pb} (c : Ctx q) {t : Types} {part : Morphism} {M : Int} {o : List Morphism} {l : List Int} (hl : l.length ≤ 100) :
    ref17_search_fits k (Search.mk t q.p q.g part q.inj M o) l = some (!anyN (badR q l) 0 q.p.fEdges.length) := by
  have hpe := c.gp.edges; have hge := c.gg.edges
  refine loop1_eq (fun i => !anyN (badR q l) i q.p.fEdges.length) q.p.fEdges.length (fun rec => ?_) (fun i hi rec ih => ?_) (Nat.zero_le _) (by omega)
  · simp only [ref17_search_fits.b0, show decide ((q.p.fEdges.length : Int) < (q.p.fEdges.length : Int)) = false by simp, cond_false, anyN_end, Bool.not_false]
  · have hr := c.gp.right i hi
    rw [anyN_step hi, ref17_search_fits.b0]; unfold jn; dsimp only
    rw [show decide ((i : Int) < (q.p.fEdges.length : Int)) = true by simp [hi], cond_true, gd (by omega), gd (inR_nat (n := i) (by omega)), ih]
    unfold badR
    cases h1 : decide ((rd q.p.fEdges (i : Int)).fFrom ≥ (l.length : Int)) with
    | true => simp
    | false =>
      cases h2 : decide ((rd q.p.fEdges (i : Int)).fTo ≥ (l.length : Int)) with
      | true => simp
      | false =>
        simp only [decide_eq_false_iff_not] at h1 h2
        rw [cond_false, cond_false, Bool.or_false, Bool.not_false, Bool.true_and]
        have h5 := loop2_out (S := Bool) (b := ref17_search_fits.b1 (Search.mk t q.p q.g part q.inj M o) l (i : Int) rec) (I := fun _ _ => True)
          (P := fun s j r => r = ((s || anyN (fun j => eqE q l (i : Int) (j : Int)) j q.g.fEdges.length) && !anyN (badR q l) (i + 1) q.p.fEdges.length)) q.g.fEdges.length (fun s _ rec1 => ?_) (fun s j hj _ rec1 ih1 => ?_) k 0 false (Nat.zero_le _) (by omega) trivial
        · have h6 : loop2 k (ref17_search_fits.b1 (Search.mk t q.p q.g part q.inj M o) l (i : Int) rec) false 0 = _ := h5.eq
          rw [h6, Bool.false_or, Bool.not_or, Bool.not_not]; rfl
        · rw [ref17_search_fits.b1]; dsimp only
          rw [show decide ((q.g.fEdges.length : Int) < (q.g.fEdges.length : Int)) = false by simp, cond_false, anyN_end, Bool.or_false, gd (inR_nat (n := i) (by omega)), ih]
          cases s
          · exact ⟨_, rfl, rfl⟩
          · exact ⟨_, rfl, rfl⟩
        · rw [anyN_step hj, ref17_search_fits.b1]; unfold jn; dsimp only
          rw [show decide ((j : Int) < (q.g.fEdges.length : Int)) = true by simp [hj], cond_true, gd (by omega), gd (inR_nat (n := j) (by omega)), gd (inR_nat (n := j) (by omega)), gd (show 0 ≤ (rd q.p.fEdges (i : Int)).fFrom ∧ (rd q.p.fEdges (i : Int)).fFrom < (l.length : Int) by omega), gd (show 0 ≤ (rd q.p.fEdges (i : Int)).fTo ∧ (rd q.p.fEdges (i : Int)).fTo < (l.length : Int) by omega),
            gd (inR_nat (n := j) (by omega)), show eqE q l (i : Int) (j : Int) = (((rd q.p.fEdges (i : Int)).fType == (rd q.g.fEdges (j : Int)).fType) && (((rd q.g.fEdges (j : Int)).fFrom == rd l (rd q.p.fEdges (i : Int)).fFrom) && ((rd q.g.fEdges (j : Int)).fTo == rd l (rd q.p.fEdges (i : Int)).fTo))) from rfl]
          cases s with
          | true => exact (ih1 true trivial).mono fun r h => by rw [h]; simp
          | false =>
            cases ((rd q.p.fEdges (i : Int)).fType == (rd q.g.fEdges (j : Int)).fType) with
            | false => exact (ih1 false trivial).mono fun r h => by rw [h]; simp
            | true =>
              cases ((rd q.g.fEdges (j : Int)).fFrom == rd l (rd q.p.fEdges (i : Int)).fFrom) with
              | false => exact (ih1 false trivial).mono fun r h => by rw [h]; simp
              | true => exact (ih1 _ trivial).mono fun r h => by rw [h]; simp
theorem badR_none {q : Pb} (c : Ctx q) {d : Nat} {l : List Int} (h : anyN (badR q l) 0 q.p.fEdges.length = true) : nodesL q d l = [] := by
  obtain ⟨i, _, hi, hb⟩ := anyN_iff.1 h
  have hr := c.gp.right i hi
  simp only [badR, Bool.and_eq_true, Bool.not_eq_true', Bool.or_eq_false_iff, decide_eq_false_iff_not] at hb
  obtain ⟨hm, hf⟩ := hb
  exact nodesL_none hi ⟨hr.2.1.1, by omega⟩ ⟨hr.2.2.1, by omega⟩ fun k hk => by
    have := anyN_false hf k (Nat.zero_le _) hk
    unfold fitE; rw [this, Bool.and_false]
structure RefP (q : Pb) (t : Types) (part : Morphism) : Prop where
  ns : t.fNodes = q.ns
  ln : part.fNodes.length = q.p.fNodes.length
  le : part.fEdges.length = q.p.fEdges.length
  pn : ∀ i : Nat, i < q.p.fNodes.length → rd part.fNodes (i : Int) = q.pn (i : Int)
  pe : ∀ i : Nat, i < q.p.fEdges.length → rd part.fEdges (i : Int) = q.pe (i : Int)
theorem ref_edges {q : Pb} (c : Ctx q) {t : Types} {part : Morphism} (f : RefP q t part) {N : Nat} (hN : N ≤ 6000) (hN0 : 1 ≤ N) {l : List Int} (hl : l.length = q.p.fNodes.length) :
    ∀ (d k : Nat) (e : List Int) (o : List Morphism), e.length + d = q.p.fEdges.length → 151 + d ≤ k → o.length ≤ N → ref17_search_edges k (Search.mk t q.p q.g part q.inj ((N : Int) - 1) o) l e = some (cut N o (edgesL q l d e))
  | d, 0, _, _, _, h, _ => by omega
  | d, k + 1, e, o, he, hk, ho => by
    have hpn := c.gp.nodes; have hpe := c.gp.edges; have hge := c.gg.edges
    unfold ref17_search_edges ref17_search_edges.main; dsimp only
    by_cases hb : (o.length : Int) > (N : Int) - 1
    · rw [decide_eq_true hb, cond_true, cut_full (by omega)]
    · rw [decide_eq_false hb, cond_false]
      cases d with
      | zero =>
        rw [show ((e.length : Int) == (q.p.fEdges.length : Int)) = true by simp; omega, cond_true, gd (by simp [lim]; omega), gd (by simp [lim]; omega), gd (by simp [lim]; omega), edgesL, cut_one (by omega)]
      | succ d =>
        rw [show ((e.length : Int) == (q.p.fEdges.length : Int)) = false by simp; omega, cond_false, gd (by omega)]
        have h5 := loop2_eq (b := ref17_search_edges.b0 k (ref17_search_edges k) (Search.mk t q.p q.g part q.inj ((N : Int) - 1) o) l e)
          (fun i => cut N o ((List.range i).flatMap fun (k : Nat) => if okE q l e (k : Int) = true then edgesL q l d (e ++ [(k : Int)]) else [])) (cut N o (edgesL q l (d + 1) e)) q.g.fEdges.length (fun rec => ?_) (fun i hi rec ih => ?_) k 0 (Nat.zero_le _) (by omega)
        · have e0 : cut N o ((List.range 0).flatMap fun (k : Nat) => if okE q l e (k : Int) = true then edgesL q l d (e ++ [(k : Int)]) else []) = o := cut_nil ho
          rw [e0] at h5
          exact h5
        · rw [ref17_search_edges.b0]; dsimp only
          rw [show decide ((q.g.fEdges.length : Int) < (q.g.fEdges.length : Int)) = false by simp, cond_false]
          rfl
        · rw [flat_succ, ← cut_cut] at ih
          generalize hG : cut N o ((List.range i).flatMap fun (k : Nat) => if okE q l e (k : Int) = true then edgesL q l d (e ++ [(k : Int)]) else []) = G at *
          have hGl : G.length ≤ N := by rw [← hG]; exact cut_len
          have hr := c.gp.right e.length (by omega)
          have hle := f.le
          rw [ref17_search_edges.b0]; unfold jn; dsimp only
          rw [show decide ((i : Int) < (q.g.fEdges.length : Int)) = true by simp [hi], cond_true, gd (by omega), gd (show (0 : Int) ≤ (e.length : Int) ∧ (e.length : Int) < (part.fEdges.length : Int) by omega), gd (show (0 : Int) ≤ (e.length : Int) ∧ (e.length : Int) < (part.fEdges.length : Int) by omega), f.pe e.length (by omega), used_eq (by omega) (by omega), Option.bind_some,
            gd (show 0 ≤ (rd q.p.fEdges (e.length : Int)).fFrom ∧ (rd q.p.fEdges (e.length : Int)).fFrom < (l.length : Int) by omega), gd (show 0 ≤ (rd q.p.fEdges (e.length : Int)).fTo ∧ (rd q.p.fEdges (e.length : Int)).fTo < (l.length : Int) by omega)]
          have key : ∀ A B : Option (List Morphism), (bif decide (q.pe (e.length : Int) ≥ 0) then (bif q.pe (e.length : Int) != (i : Int) then (bif true then A else B) else (bif q.inj && decide ((i : Int) ∈ e) then (bif true then A else B) else (bif (rd q.p.fEdges (e.length : Int)).fType != (rd q.g.fEdges (i : Int)).fType then (bif true then A else B) else (bif (rd q.g.fEdges (i : Int)).fFrom != rd l (rd q.p.fEdges (e.length : Int)).fFrom then (bif true then A else B) else (bif (rd q.g.fEdges (i : Int)).fTo != rd l (rd q.p.fEdges (e.length : Int)).fTo then A else B)))))
              else (bif q.inj && decide ((i : Int) ∈ e) then (bif true then A else B) else (bif (rd q.p.fEdges (e.length : Int)).fType != (rd q.g.fEdges (i : Int)).fType then (bif true then A else B) else (bif (rd q.g.fEdges (i : Int)).fFrom != rd l (rd q.p.fEdges (e.length : Int)).fFrom then (bif true then A else B) else (bif (rd q.g.fEdges (i : Int)).fTo != rd l (rd q.p.fEdges (e.length : Int)).fTo then A else B))))) = bif okE q l e (i : Int) then B else A := fun A B => by
            unfold okE fitE eqE bne
            cases decide (q.pe (e.length : Int) ≥ 0) <;> cases (q.pe (e.length : Int) == (i : Int)) <;> cases (q.inj && decide ((i : Int) ∈ e)) <;> cases ((rd q.p.fEdges (e.length : Int)).fType == (rd q.g.fEdges (i : Int)).fType) <;> cases ((rd q.g.fEdges (i : Int)).fFrom == rd l (rd q.p.fEdges (e.length : Int)).fFrom) <;> cases ((rd q.g.fEdges (i : Int)).fTo == rd l (rd q.p.fEdges (e.length : Int)).fTo) <;> rfl
          rw [key]
          cases hz : okE q l e (i : Int) with
          | false =>
            rw [cond_false, gd (inR_nat (n := i) (by omega))]
            rw [if_neg (by rw [hz]; simp), cut_nil hGl] at ih
            exact ih
          | true =>
            rw [if_pos hz] at ih
            rw [cond_true, gd (by simp [lim]; omega), gd (by simp [lim]; omega), ref_edges c f hN hN0 hl d k (e ++ [(i : Int)]) G (by simp; omega) (by omega) hGl, Option.bind_some, gd (inR_nat (n := i) (by omega))]
            exact ih
theorem ref_nodes {q : Pb} (c : Ctx q) {t : Types} {part : Morphism} (f : RefP q t part) {N : Nat} (hN : N ≤ 6000) (hN0 : 1 ≤ N) :
    ∀ (d k : Nat) (l : List Int) (o : List Morphism), l.length + d = q.p.fNodes.length → 160 + q.p.fEdges.length + d ≤ k → o.length ≤ N → ref17_search_nodes k (Search.mk t q.p q.g part q.inj ((N : Int) - 1) o) l = some (cut N o (nodesL q d l))
  | d, 0, _, _, _, h, _ => by omega
  | d, k + 1, l, o, hl, hk, ho => by
    have hpn := c.gp.nodes; have hpe := c.gp.edges; have hge := c.gg.edges; have hgn := c.gg.nodes
    unfold ref17_search_nodes ref17_search_nodes.main jn; dsimp only
    by_cases hb : (o.length : Int) > (N : Int) - 1
    · rw [decide_eq_true hb, cond_true, cond_true, cut_full (by omega)]
    · rw [decide_eq_false hb, cond_false, ref_fits_eq (by omega) c (by omega), Option.bind_some, Bool.not_not]
      cases hp : anyN (badR q l) 0 q.p.fEdges.length with
      | true => rw [cond_true, badR_none c hp, cut_nil ho]
      | false =>
        rw [cond_false]
        cases d with
        | zero =>
          rw [show ((l.length : Int) == (q.p.fNodes.length : Int)) = true by simp; omega, cond_true, ref_edges c f hN hN0 (by omega) q.p.fEdges.length k [] o (by simp) (by omega) ho]
          rfl
        | succ d =>
          rw [show ((l.length : Int) == (q.p.fNodes.length : Int)) = false by simp; omega, cond_false]
          have h5 := loop2_eq (b := ref17_search_nodes.b0 k (ref17_search_nodes k) (Search.mk t q.p q.g part q.inj ((N : Int) - 1) o) l)
            (fun i => cut N o ((List.range i).flatMap fun (k : Nat) => if okN q l (k : Int) = true then nodesL q d (l ++ [(k : Int)]) else [])) (cut N o (nodesL q (d + 1) l)) q.g.fNodes.length (fun rec => ?_) (fun i hi rec ih => ?_) k 0 (Nat.zero_le _) (by omega)
          · have e0 : cut N o ((List.range 0).flatMap fun (k : Nat) => if okN q l (k : Int) = true then nodesL q d (l ++ [(k : Int)]) else []) = o := cut_nil ho
            rw [e0] at h5
            exact h5
          · rw [ref17_search_nodes.b0]; dsimp only
            rw [show decide ((q.g.fNodes.length : Int) < (q.g.fNodes.length : Int)) = false by simp, cond_false]
            rfl
          · rw [flat_succ, ← cut_cut] at ih
            generalize hG : cut N o ((List.range i).flatMap fun (k : Nat) => if okN q l (k : Int) = true then nodesL q d (l ++ [(k : Int)]) else []) = G at *
            have hGl : G.length ≤ N := by rw [← hG]; exact cut_len
            have hln := f.ln
            have hpk := c.p_kind (x := (l.length : Int)) (by omega) (by omega)
            have hgk := c.g_kind (x := (i : Int)) (by omega) (by omega)
            have hB := Below1_eq (t := t) (n := q.ns.length) (by rw [f.ns]; exact c.wf) hpk.1 100 k (rd q.g.fNodes (i : Int)) (by omega) (by omega) (by have := c.few; omega) hgk.2
            rw [f.ns] at hB
            have hB' : ref04_Below1 k t (rd q.g.fNodes (i : Int)) (rd q.p.fNodes (l.length : Int)) = some (isB q.ns (rd q.g.fNodes (i : Int)) (rd q.p.fNodes (l.length : Int))) := hB
            rw [ref17_search_nodes.b0]; unfold jn; dsimp only
            rw [show decide ((i : Int) < (q.g.fNodes.length : Int)) = true by simp [hi], cond_true, gd (show (0 : Int) ≤ (l.length : Int) ∧ (l.length : Int) < (part.fNodes.length : Int) by omega), gd (show (0 : Int) ≤ (l.length : Int) ∧ (l.length : Int) < (part.fNodes.length : Int) by omega), f.pn l.length (by omega), used_eq (by omega) (by omega), Option.bind_some,
              gd (show (0 : Int) ≤ (i : Int) ∧ (i : Int) < (q.g.fNodes.length : Int) by omega), gd (show (0 : Int) ≤ (l.length : Int) ∧ (l.length : Int) < (q.p.fNodes.length : Int) by omega), hB', Option.bind_some]
            have key : ∀ A B : Option (List Morphism), (bif decide (q.pn (l.length : Int) ≥ 0) then (bif q.pn (l.length : Int) != (i : Int) then (bif true then A else B) else (bif q.inj && decide ((i : Int) ∈ l) then (bif true then A else B) else (bif !isB q.ns (rd q.g.fNodes (i : Int)) (rd q.p.fNodes (l.length : Int)) then A else B)))
                else (bif q.inj && decide ((i : Int) ∈ l) then (bif true then A else B) else (bif !isB q.ns (rd q.g.fNodes (i : Int)) (rd q.p.fNodes (l.length : Int)) then A else B))) = bif okN q l (i : Int) then B else A := fun A B => by
              unfold okN bne
              cases decide (q.pn (l.length : Int) ≥ 0) <;> cases (q.pn (l.length : Int) == (i : Int)) <;> cases (q.inj && decide ((i : Int) ∈ l)) <;> cases isB q.ns (rd q.g.fNodes (i : Int)) (rd q.p.fNodes (l.length : Int)) <;> rfl
            rw [key]
            cases hz : okN q l (i : Int) with
            | false =>
              rw [cond_false, gd (inR_nat (n := i) (by omega))]
              rw [if_neg (by rw [hz]; simp), cut_nil hGl] at ih
              exact ih
            | true =>
              rw [if_pos hz] at ih
              rw [cond_true, gd (by simp [lim]; omega), gd (by simp [lim]; omega), ref_nodes c f hN hN0 d k (l ++ [(i : Int)]) G (by simp; omega) (by omega) hGl, Option.bind_some, gd (inR_nat (n := i) (by omega))]
              exact ih
theorem ctx_of {t : Types} {p g : Graph} (f : Fine t p g) (pn pe : Int → Int) (inj : Bool) : Ctx ⟨p, g, t.fNodes, pn, pe, inj⟩ :=
  ⟨f.gp, f.gg, fun _ hj => typedB_node f.tp hj, fun _ hj => typedB_node f.tg hj, (valid_wf f.ok).1, by have := (valid_wf f.ok).2.1; show t.fNodes.length ≤ 50; omega⟩
theorem edgesL_len {q : Pb} {l : List Int} : ∀ (d : Nat) (e : List Int) (m : Morphism), m ∈ edgesL q l d e → m.fNodes = l ∧ m.fEdges.length = e.length + d
  | 0, e, m, h => by simp [edgesL] at h; subst h; exact ⟨rfl, rfl⟩
  | d + 1, e, m, h => by
    simp only [edgesL, List.mem_flatMap] at h
    obtain ⟨k, _, h⟩ := h
    by_cases ok : okE q l e (k : Int) = true
    · rw [if_pos ok] at h
      obtain ⟨h1, h2⟩ := edgesL_len d _ m h
      exact ⟨h1, by rw [h2]; simp; omega⟩
    · rw [if_neg ok] at h; cases h
theorem nodesL_len {q : Pb} : ∀ (d : Nat) (l : List Int) (m : Morphism), m ∈ nodesL q d l → m.fNodes.length = l.length + d ∧ m.fEdges.length = q.p.fEdges.length
  | 0, l, m, h => by
    obtain ⟨h1, h2⟩ := edgesL_len _ _ m h
    exact ⟨by rw [h1]; rfl, by simpa using h2⟩
  | d + 1, l, m, h => by
    simp only [nodesL, List.mem_flatMap] at h
    obtain ⟨k, _, h⟩ := h
    by_cases ok : okN q l (k : Int) = true
    · rw [if_pos ok] at h
      obtain ⟨h1, h2⟩ := nodesL_len d _ m h
      exact ⟨by rw [h1]; simp; omega, h2⟩
    · rw [if_neg ok] at h; cases h
def allL (q : Pb) (N : Nat) : List Morphism := cut N [] (nodesL q q.p.fNodes.length [])
theorem found_eq {k : Nat} (hk : 300 ≤ k) {t : Types} (ht : FewT t) {p g : Graph} (f : Fine t p g) {part : OMorphism} {pn pe : Int → Int} {inj : Bool} {N : Nat} (hN : N ≤ 6000)
    (h1 : ∀ i : Nat, i < p.fNodes.length → pO part.fNodes (i : Int) = pn (i : Int) ∧ ∀ l, part.fNodes = some l → (i : Int) < (l.length : Int))
    (h2 : ∀ i : Nat, i < p.fEdges.length → pO part.fEdges (i : Int) = pe (i : Int) ∧ ∀ l, part.fEdges = some l → (i : Int) < (l.length : Int)) :
    search_found k t p g part inj (N : Int) = some (allL ⟨p, g, t.fNodes, pn, pe, inj⟩ N) := by
  obtain ⟨M, e, hM⟩ := search_below_out (k := k) (by omega) ht f.ok
  have a := f.gp.nodes; have b := f.gp.edges
  unfold search_found
  rw [e, Option.bind_some, find_nodes (q := ⟨p, g, t.fNodes, pn, pe, inj⟩) (ctx_of f pn pe inj) ⟨hM, h1, h2⟩ hN p.fNodes.length k [] [] (by simp) (by dsimp only; omega) (Nat.zero_le _)]
  rfl
theorem run_eq {k : Nat} (hk : 300 ≤ k) {t : Types} {p g : Graph} (f : Fine t p g) {part : Morphism} {pn pe : Int → Int} {inj : Bool} {N : Nat} (hN : N ≤ 6000) (hN0 : 1 ≤ N)
    (l1 : part.fNodes.length = p.fNodes.length) (l2 : part.fEdges.length = p.fEdges.length) (h1 : ∀ i : Nat, i < p.fNodes.length → rd part.fNodes (i : Int) = pn (i : Int)) (h2 : ∀ i : Nat, i < p.fEdges.length → rd part.fEdges (i : Int) = pe (i : Int)) :
    ref17_run k t p g part inj ((N : Int) - 1) = some (allL ⟨p, g, t.fNodes, pn, pe, inj⟩ N) := by
  have a := f.gp.nodes; have b := f.gp.edges
  unfold ref17_run
  rw [ref_nodes (q := ⟨p, g, t.fNodes, pn, pe, inj⟩) (ctx_of f pn pe inj) ⟨rfl, l1, l2, h1, h2⟩ hN hN0 p.fNodes.length k [] [] (by simp) (by dsimp only; omega) (Nat.zero_le _)]
  rfl
structure AllNeg (p : Graph) (m : Morphism) : Prop where
  ln : m.fNodes.length = p.fNodes.length
  le : m.fEdges.length = p.fEdges.length
  n : ∀ i : Nat, i < p.fNodes.length → rd m.fNodes (i : Int) = -1
  e : ∀ i : Nat, i < p.fEdges.length → rd m.fEdges (i : Int) = -1
theorem ref17_open_out {k : Nat} (hk : 200 ≤ k) {p : Graph} (hp : GoodG p) : Out (ref17_open k p) (AllNeg p) := by
  have a := hp.nodes; have b := hp.edges
  unfold ref17_open jn; dsimp only
  rw [gd (by simp [lim]; omega), gd (by simp [lim]; omega)]
  refine loop2_out (S := List Int) (P := fun _ _ m => AllNeg p m) (I := fun s i => s.length = p.fNodes.length ∧ ∀ j : Nat, j < i → rd s (j : Int) = -1) p.fNodes.length
    (fun s hs rec => ?_) (fun s i hi hs rec ih => ?_) k 0 _ (Nat.zero_le _) (by omega) ⟨by simp, fun j hj => by omega⟩
  · rw [ref17_open.b0, hs.1, show decide ((p.fNodes.length : Int) < (p.fNodes.length : Int)) = false by simp, cond_false]
    refine loop2_out (S := List Int) (P := fun _ _ m => AllNeg p m) (I := fun s i => s.length = p.fEdges.length ∧ ∀ j : Nat, j < i → rd s (j : Int) = -1) p.fEdges.length
      (fun s' hs' rec => ?_) (fun s' i hi hs' rec ih => ?_) k 0 _ (Nat.zero_le _) (by omega) ⟨by simp, fun j hj => by omega⟩
    · rw [ref17_open.b1, hs'.1, show decide ((p.fEdges.length : Int) < (p.fEdges.length : Int)) = false by simp, cond_false]
      exact ⟨_, rfl, hs.1, hs'.1, hs.2, hs'.2⟩
    · have hl := hs'.1
      rw [ref17_open.b1, hs'.1, show decide ((i : Int) < (p.fEdges.length : Int)) = true by simp [hi], cond_true, gd (by omega), gd (inR_nat (n := i) (by omega))]
      refine ih _ ⟨by simp [hl], fun j hj => ?_⟩
      rw [rd_set (by omega) (by omega) (by omega)]
      by_cases e : (j : Int) = (i : Int)
      · rw [if_pos e]
      · rw [if_neg e]; exact hs'.2 j (by omega)
  · have hl := hs.1
    rw [ref17_open.b0, hs.1, show decide ((i : Int) < (p.fNodes.length : Int)) = true by simp [hi], cond_true, gd (by omega), gd (inR_nat (n := i) (by omega))]
    refine ih _ ⟨by simp [hl], fun j hj => ?_⟩
    rw [rd_set (by omega) (by omega) (by omega)]
    by_cases e : (j : Int) = (i : Int)
    · rw [if_pos e]
    · rw [if_neg e]; exact hs.2 j (by omega)
def injS (m : Morphism) (inj : Bool) : Int := bif inj && (!decide m.fNodes.Nodup || !decide m.fEdges.Nodup) then 5 else 0
def matchI (t : Types) (p g : Graph) (m : Morphism) (inj : Bool) : Int := bif matchS t p g m != 0 then matchS t p g m else injS m inj
def checkS (t : Types) (p g : Graph) (m : Morphism) (inj : Bool) : Int := bif givenS t p g != 0 then givenS t p g else matchI t p g m inj
theorem search_Check_eq {k : Nat} (hk : 200 ≤ k) {t : Types} {p g : Graph} (h : Small t p g) (m : Morphism) (inj : Bool) (h1 : m.fNodes.length ≤ 100) (h2 : m.fEdges.length ≤ 100) : search_Check k t p g m inj = some (checkS t p g m inj) := by
  unfold search_Check checkS
  rw [search_valid_eq hk h, Option.bind_some]
  cases hz : (givenS t p g != 0) with
  | true => rfl
  | false =>
    have f := givenS_fine (by simpa using hz)
    rw [cond_false, cond_false, search_shape_eq hk h.t f m h1 h2, Option.bind_some]
    unfold matchI injS jn; dsimp only
    cases (matchS t p g m != 0) with
    | true => rfl
    | false =>
      rw [cond_false, cond_false, search_twice, if_pos (by omega), Option.bind_some, search_twice, if_pos (by omega), Option.bind_some]
      cases inj <;> cases decide m.fNodes.Nodup <;> cases decide m.fEdges.Nodup <;> rfl
structure EdgesOk (q : Pb) (l e : List Int) : Prop where
  fit : ∀ i : Nat, i < e.length → 0 ≤ rd e (i : Int) ∧ rd e (i : Int) < (q.g.fEdges.length : Int) ∧ eqE q l (i : Int) (rd e (i : Int)) = true
  inj : q.inj = true → e.Nodup
theorem nodup_snoc {l : List Int} {x : Int} (h : l.Nodup) (hx : x ∉ l) : (l ++ [x]).Nodup := by
  rw [List.nodup_append]
  exact ⟨h, by simp, fun a ha b hb => by rw [List.mem_singleton.1 hb]; exact fun e => hx (e ▸ ha)⟩
theorem edgesL_ok {q : Pb} {l : List Int} : ∀ (d : Nat) (e : List Int) (m : Morphism), m ∈ edgesL q l d e → EdgesOk q l e → m.fNodes = l ∧ EdgesOk q l m.fEdges
  | 0, e, m, h, he => by simp [edgesL] at h; subst h; exact ⟨rfl, he⟩
  | d + 1, e, m, h, he => by
    simp only [edgesL, List.mem_flatMap, List.mem_range] at h
    obtain ⟨k, hk, h⟩ := h
    by_cases ok : okE q l e (k : Int) = true
    · rw [if_pos ok] at h
      simp only [okE, fitE, Bool.and_eq_true] at ok
      refine edgesL_ok d _ m h ⟨fun i hi => ?_, fun hj => ?_⟩
      · rw [List.length_append] at hi
        rcases Nat.lt_or_ge i e.length with hlt | hge
        · rw [rd_append_lt (by omega) (by omega)]; exact he.fit i hlt
        · have hi' : i < e.length + 1 := by simpa using hi
          have e1 : i = e.length := by omega
          subst e1
          rw [rd_append_eq]
          exact ⟨by omega, by omega, ok.1.2⟩
      · refine nodup_snoc (he.inj hj) ?_
        have := ok.2
        rw [hj] at this
        simpa using this
    · rw [if_neg ok] at h; cases h
structure NodesOk (q : Pb) (l : List Int) : Prop where
  fit : ∀ i : Nat, i < l.length → 0 ≤ rd l (i : Int) ∧ rd l (i : Int) < (q.g.fNodes.length : Int) ∧ isB q.ns (rd q.g.fNodes (rd l (i : Int))) (rd q.p.fNodes (i : Int)) = true
  inj : q.inj = true → l.Nodup
theorem nodesL_ok {q : Pb} : ∀ (d : Nat) (l : List Int) (m : Morphism), m ∈ nodesL q d l → NodesOk q l → NodesOk q m.fNodes ∧ EdgesOk q m.fNodes m.fEdges
  | 0, l, m, h, hl => by
    obtain ⟨h1, h2⟩ := edgesL_ok _ _ m h ⟨fun i hi => by simp at hi, fun _ => by simp⟩
    rw [h1]; exact ⟨hl, h2⟩
  | d + 1, l, m, h, hl => by
    simp only [nodesL, List.mem_flatMap, List.mem_range] at h
    obtain ⟨k, hk, h⟩ := h
    by_cases ok : okN q l (k : Int) = true
    · rw [if_pos ok] at h
      simp only [okN, Bool.and_eq_true] at ok
      refine nodesL_ok d _ m h ⟨fun i hi => ?_, fun hj => ?_⟩
      · rw [List.length_append] at hi
        rcases Nat.lt_or_ge i l.length with hlt | hge
        · rw [rd_append_lt (by omega) (by omega)]; exact hl.fit i hlt
        · have hi' : i < l.length + 1 := by simpa using hi
          have e1 : i = l.length := by omega
          subst e1
          rw [rd_append_eq]
          exact ⟨by omega, by omega, ok.2.1⟩
      · refine nodup_snoc (hl.inj hj) ?_
        have := ok.2.2
        rw [hj] at this
        simpa using this
    · rw [if_neg ok] at h; cases h
def pbA (t : Types) (p g : Graph) (inj : Bool) : Pb := ⟨p, g, t.fNodes, fun _ => -1, fun _ => -1, inj⟩
def fullL (t : Types) (p g : Graph) (inj : Bool) : List Morphism := nodesL (pbA t p g inj) p.fNodes.length []
theorem full_check {t : Types} {p g : Graph} (hz : givenS t p g = 0) {inj : Bool} {m : Morphism} (hm : m ∈ fullL t p g inj) : checkS t p g m inj = 0 := by
  have hlen := nodesL_len _ _ m hm
  obtain ⟨hn, he⟩ := nodesL_ok _ _ m hm ⟨fun i hi => by simp at hi, fun _ => by simp⟩
  have l1 : m.fNodes.length = p.fNodes.length := by simpa using hlen.1
  have l2 : m.fEdges.length = p.fEdges.length := hlen.2
  have hnode : ∀ i, i < m.fNodes.length → nodeM t p g m i = 0 := fun i hi => by
    have := hn.fit i hi
    have h3 : isB t.fNodes (rd g.fNodes (rd m.fNodes (i : Int))) (rd p.fNodes (i : Int)) = true := this.2.2
    have h4 : rd m.fNodes (i : Int) < (g.fNodes.length : Int) := this.2.1
    unfold nodeM
    rw [decide_eq_false (show ¬ rd m.fNodes (i : Int) < 0 by omega), decide_eq_false (show ¬ rd m.fNodes (i : Int) ≥ (g.fNodes.length : Int) by omega), h3]; rfl
  have hedge : ∀ i, i < m.fEdges.length → edgeM p g m i = 0 := fun i hi => by
    have := he.fit i hi
    have h3 : eqE (pbA t p g inj) m.fNodes (i : Int) (rd m.fEdges (i : Int)) = true := this.2.2
    have h4 : rd m.fEdges (i : Int) < (g.fEdges.length : Int) := this.2.1
    simp only [eqE, pbA, Bool.and_eq_true, beq_iff_eq] at h3
    unfold edgeM
    rw [decide_eq_false (show ¬ rd m.fEdges (i : Int) < 0 by omega), decide_eq_false (show ¬ rd m.fEdges (i : Int) ≥ (g.fEdges.length : Int) by omega), h3.1, ← h3.2.1, ← h3.2.2]
    simp
  have hs : ∀ {e : Nat → Int} {n : Nat}, (∀ j, j < n → e j = 0) → ∀ i, i ≤ n → scan e i n = 0 := by
    intro e n h i
    induction hd : n - i generalizing i with
    | zero => intro hi; have : i = n := by omega
              subst this; exact scan_end
    | succ d ih => intro hi; rw [scan_step (by omega), h i (by omega), bne_self_eq_false, cond_false]; exact ih (i + 1) (by omega) (by omega)
  have hmS : matchS t p g m = 0 := by
    unfold matchS match2
    rw [hs hnode 0 (Nat.zero_le _), hs hedge 0 (Nat.zero_le _), l1, l2]
    simp
  unfold checkS matchI injS
  rw [hz, hmS]
  cases hi : inj with
  | false => rfl
  | true =>
    rw [decide_eq_true (hn.inj hi), decide_eq_true (he.inj hi)]; rfl
theorem allL_full {t : Types} {p g : Graph} {inj : Bool} : allL ⟨p, g, t.fNodes, fun _ => -1, fun _ => -1, inj⟩ 5001 = (fullL t p g inj).take 5001 := rfl
theorem set_rd {α : Type} [Inhabited α] {l : List α} {i : Nat} (hi : i < l.length) : l.set i (rd l (i : Int)) = l := by
  have : rd l (i : Int) = l[i] := by simp [rd, List.getD, List.getElem?_eq_getElem hi]
  rw [this, List.set_getElem_self]
theorem take_rdA {α : Type} [Inhabited α] {l : List α} {i : Nat} (hi : i < l.length) : l.take (i + 1) = l.take i ++ [rd l (i : Int)] := by
  have : rd l (i : Int) = l[i] := by simp [rd, List.getD, List.getElem?_eq_getElem hi]
  rw [this, List.take_succ_eq_append_getElem hi]
theorem Attrs_eq {k : Nat} (hk : 1000 ≤ k) {t : Types} (ht : FewT t) (hv : validS t = 0) {a : Int} (h0 : 0 ≤ a) (ha : a < (t.fNodes.length : Int)) : types_Attrs k t a = some (attrsS t.fNodes t.fNodes.length a, 0) := by
  obtain ⟨w, h12, _⟩ := valid_wf hv
  have hl := attrsS_len w (fun x hx => ht.nattr x hx) t.fNodes.length a ha
  have hA := attrsS_all (G := FewA) w (fun x hx => ht.attr x hx) t.fNodes.length a ha
  unfold types_Attrs
  rw [types_given_eq (by omega) ht hv h0 ha, Option.bind_some, bne_self_eq_false, cond_false, types_attrs_eq w (fun x hx => ht.nattr x hx) t.fNodes.length k a (by omega) (by omega) h0 ha ha, Option.bind_some]
  generalize attrsS t.fNodes t.fNodes.length a = l at *
  refine Out.eq (loop2_out (S := List Attr) (P := fun _ _ r => r = (l, 0)) (I := fun s _ => s = l) l.length (fun s hs rec => ?_) (fun s i hi hs rec ih => ?_) k 0 l (Nat.zero_le _) (by omega) rfl)
  · rw [types_Attrs.b0, decide_eq_false (show ¬ (l.length : Int) < (l.length : Int) by omega), cond_false, hs]; exact ⟨_, rfl, rfl⟩
  · subst hs
    have hf := (hA _ (rd_mem (l := s) (x := (i : Int)) (by omega) (by omega))).names
    rw [types_Attrs.b0, decide_eq_true (show (i : Int) < (s.length : Int) by omega), cond_true, gd ⟨by omega, by omega⟩]
    unfold slices_Clone_string
    rw [gd (show (rd s (i : Int)).fNames.length ≤ lim by unfold lim; omega), Option.bind_some, gd ⟨by omega, by omega⟩, gd (inR_nat (n := i) (by omega))]
    exact ih _ (set_rd hi)
theorem ref04_given_eq {k : Nat} (hk : 200 ≤ k) {t : Types} (ht : FewT t) (hv : validS t = 0) {a b : Int} (h0 : 0 ≤ a) (ha : a < (t.fNodes.length : Int)) (g0 : 0 ≤ b) (gb : b < (t.fNodes.length : Int)) : ref04_given k t a b = some 0 := by
  obtain ⟨r, e, hr⟩ := ref04_Valid_out hk ht
  have h20 := ht.nodes
  unfold ref04_given jn; dsimp only
  rw [e, Option.bind_some, hr, hv, bne_self_eq_false, cond_false, gd (inR_of (by omega)), ref04_in_eq, Option.bind_some]
  rw [decide_eq_true (show a ≥ 0 by omega), decide_eq_true (show a ≤ (t.fNodes.length : Int) - 1 by omega), Bool.and_true, Bool.not_true, cond_false, gd (inR_of (by omega)), ref04_in_eq, Option.bind_some]
  rw [decide_eq_true (show b ≥ 0 by omega), decide_eq_true (show b ≤ (t.fNodes.length : Int) - 1 by omega)]; rfl
theorem ref04_Attrs_eq {k : Nat} (hk : 1000 ≤ k) {t : Types} (ht : FewT t) (hv : validS t = 0) {a : Int} (h0 : 0 ≤ a) (ha : a < (t.fNodes.length : Int)) : ref04_Attrs k t a = some (attrsS t.fNodes t.fNodes.length a, 0) := by
  obtain ⟨w, h12, _⟩ := valid_wf hv
  have hl := attrsS_len w (fun x hx => ht.nattr x hx) t.fNodes.length a ha
  have hA := attrsS_all (G := FewA) w (fun x hx => ht.attr x hx) t.fNodes.length a ha
  unfold ref04_Attrs
  rw [ref04_given_eq (by omega) ht hv h0 ha h0 ha, Option.bind_some, bne_self_eq_false, cond_false, ref04_attrs_eq w (fun x hx => ht.nattr x hx) t.fNodes.length k a (by omega) (by omega) ha ha, Option.bind_some]
  generalize attrsS t.fNodes t.fNodes.length a = l at *
  refine Out.eq (loop2_out (S := List Attr) (P := fun _ _ r => r = (l, 0)) (I := fun s i => s = l.take i) l.length (fun s hs rec => ?_) (fun s i hi hs rec ih => ?_) k 0 [] (Nat.zero_le _) (by omega) rfl)
  · rw [ref04_Attrs.b0, decide_eq_false (show ¬ (l.length : Int) < (l.length : Int) by omega), cond_false, hs, List.take_length]; exact ⟨_, rfl, rfl⟩
  · have hf := (hA _ (rd_mem (l := l) (x := (i : Int)) (by omega) (by omega))).names
    have hsl : s.length ≤ 360 := by rw [hs, List.length_take]; omega
    rw [ref04_Attrs.b0, decide_eq_true (show (i : Int) < (l.length : Int) by omega), cond_true, gd ⟨by omega, by omega⟩, gd (show (rd l (i : Int)).fNames.length ≤ lim by unfold lim; omega), gd (show s.length + [rd l (i : Int)].length ≤ lim by unfold lim; simp; omega), gd (inR_nat (n := i) (by omega))]
    exact ih _ (by rw [hs, take_rdA hi])
theorem within_eq {k : Nat} (a b c : Int) : attribute_within k a b c = some (decide (a ≥ b) && decide (a ≤ c)) := by
  unfold attribute_within jn; dsimp only
  cases decide (a ≥ b) <;> rfl
def noAttr : Attr × Bool := (Attr.mk [] 0 0 [], false)
def attrP (t : Types) (g : Graph) (n a : Int) : Attr × Bool :=
  if 0 ≤ n ∧ n < (g.fNodes.length : Int) then (if 0 ≤ a ∧ a < ((attrsS t.fNodes t.fNodes.length (rd g.fNodes n)).length : Int) then (rd (attrsS t.fNodes t.fNodes.length (rd g.fNodes n)) a, true) else noAttr) else noAttr
structure Over (t : Types) (g : Graph) : Prop where
  few : FewT t
  val : validS t = 0
  nodes : ∀ x ∈ g.fNodes, 0 ≤ x ∧ x < (t.fNodes.length : Int)
  len : g.fNodes.length ≤ 45
theorem Over.attrs {t : Types} {g : Graph} (h : Over t g) {n : Int} (h0 : 0 ≤ n) (h1 : n < (g.fNodes.length : Int)) : (attrsS t.fNodes t.fNodes.length (rd g.fNodes n)).length ≤ 360 := by
  obtain ⟨w, h12, _⟩ := valid_wf h.val
  have hm := h.nodes _ (rd_mem h0 h1)
  have := attrsS_len w (fun x hx => h.few.nattr x hx) t.fNodes.length _ hm.2
  omega
theorem attrP_yes {t : Types} {g : Graph} {n a : Int} (c : 0 ≤ n ∧ n < (g.fNodes.length : Int)) (d : 0 ≤ a ∧ a < ((attrsS t.fNodes t.fNodes.length (rd g.fNodes n)).length : Int)) :
    attrP t g n a = (rd (attrsS t.fNodes t.fNodes.length (rd g.fNodes n)) a, true) := by unfold attrP; rw [if_pos c, if_pos d]
theorem attrP_no {t : Types} {g : Graph} {n a : Int} (c : 0 ≤ n ∧ n < (g.fNodes.length : Int)) (d : ¬ (0 ≤ a ∧ a < ((attrsS t.fNodes t.fNodes.length (rd g.fNodes n)).length : Int))) : attrP t g n a = noAttr := by unfold attrP; rw [if_pos c, if_neg d]
theorem attrP_out {t : Types} {g : Graph} {n a : Int} (c : ¬ (0 ≤ n ∧ n < (g.fNodes.length : Int))) : attrP t g n a = noAttr := if_neg c
theorem attr_eq {k : Nat} (hk : 1000 ≤ k) {t : Types} {p : Pattern} (h : Over t p.fGraph) (s : Slot) : attribute_attr k t p s = some (attrP t p.fGraph s.fNode s.fAttr) := by
  have hn := h.len
  unfold attribute_attr
  rw [gd (inR_of (by omega)), within_eq, Option.bind_some]
  by_cases c : 0 ≤ s.fNode ∧ s.fNode < (p.fGraph.fNodes.length : Int)
  · have hm := h.nodes _ (rd_mem c.1 c.2)
    have hl := h.attrs c.1 c.2
    rw [decide_eq_true (show s.fNode ≥ 0 by omega), decide_eq_true (show s.fNode ≤ (p.fGraph.fNodes.length : Int) - 1 by omega), Bool.and_true, Bool.not_true, cond_false, gd c, Attrs_eq hk h.few h.val hm.1 hm.2, Option.bind_some]
    dsimp only
    rw [gd (inR_of (by omega)), within_eq, Option.bind_some]
    by_cases d : 0 ≤ s.fAttr ∧ s.fAttr < ((attrsS t.fNodes t.fNodes.length (rd p.fGraph.fNodes s.fNode)).length : Int)
    · rw [attrP_yes c d, decide_eq_true (show s.fAttr ≥ 0 by omega), decide_eq_true (show s.fAttr ≤ ((attrsS t.fNodes t.fNodes.length (rd p.fGraph.fNodes s.fNode)).length : Int) - 1 by omega), Bool.and_true, Bool.not_true, cond_false, gd d]
    · rw [attrP_no c d]
      have : (decide (s.fAttr ≥ 0) && decide (s.fAttr ≤ ((attrsS t.fNodes t.fNodes.length (rd p.fGraph.fNodes s.fNode)).length : Int) - 1)) = false := by
        rw [Bool.and_eq_false_iff, decide_eq_false_iff_not, decide_eq_false_iff_not]; omega
      rw [this, Bool.not_false, cond_true]; rfl
  · rw [attrP_out c]
    have : (decide (s.fNode ≥ 0) && decide (s.fNode ≤ (p.fGraph.fNodes.length : Int) - 1)) = false := by
      rw [Bool.and_eq_false_iff, decide_eq_false_iff_not, decide_eq_false_iff_not]; omega
    rw [this, Bool.not_false, cond_true]; rfl
theorem ref_attr_eq {k : Nat} (hk : 1000 ≤ k) {t : Types} {p : Pattern} (h : Over t p.fGraph) (n a : Int) : ref21_attr k t p n a = some (attrP t p.fGraph n a) := by
  unfold ref21_attr jn; dsimp only
  by_cases c : 0 ≤ n ∧ n < (p.fGraph.fNodes.length : Int)
  · have hm := h.nodes _ (rd_mem c.1 c.2)
    rw [decide_eq_false (show ¬ n < 0 by omega), decide_eq_false (show ¬ n ≥ (p.fGraph.fNodes.length : Int) by omega), cond_false, cond_false, gd c, ref04_Attrs_eq hk h.few h.val hm.1 hm.2, Option.bind_some]
    dsimp only
    rw [bne_self_eq_false, cond_false]
    by_cases d : 0 ≤ a ∧ a < ((attrsS t.fNodes t.fNodes.length (rd p.fGraph.fNodes n)).length : Int)
    · rw [attrP_yes c d, decide_eq_false (show ¬ a < 0 by omega), decide_eq_false (show ¬ a ≥ ((attrsS t.fNodes t.fNodes.length (rd p.fGraph.fNodes n)).length : Int) by omega), cond_false, cond_false, gd d]
    · rw [attrP_no c d]
      by_cases e : a < 0
      · rw [decide_eq_true e, cond_true, cond_true]; rfl
      · rw [decide_eq_false e, decide_eq_true (show a ≥ ((attrsS t.fNodes t.fNodes.length (rd p.fGraph.fNodes n)).length : Int) by omega), cond_false, cond_true]; rfl
  · rw [attrP_out c]
    by_cases e : n < 0
    · rw [decide_eq_true e, cond_true, cond_true]; rfl
    · rw [decide_eq_false e, decide_eq_true (show n ≥ (p.fGraph.fNodes.length : Int) by omega), cond_false, cond_true]; rfl
def termB (n : Int) (x : Term) : Bool := decide (x.fVar ≥ -1) && (decide (x.fVar < n) && (decide (x.fAdd ≥ -1000000) && decide (x.fAdd ≤ 1000000)))
theorem term_eqB {k : Nat} (n : Int) (x : Term) : difference_term k n x = some (termB n x) := by
  unfold difference_term termB jn; dsimp only
  cases decide (x.fVar ≥ -1) <;> cases decide (x.fVar < n) <;> cases decide (x.fAdd ≥ -1000000) <;> rfl
theorem ref_term_eq {k : Nat} (n : Int) (x : Term) : ref03_within k n x = some (bif termB n x then 0 else 6) := by
  unfold ref03_within termB jn; dsimp only
  rw [show decide (x.fVar < -1) = !decide (x.fVar ≥ -1) by rw [Bool.eq_iff_iff]; simp <;> omega, show decide (x.fVar ≥ n) = !decide (x.fVar < n) by rw [Bool.eq_iff_iff]; simp,
    show decide (x.fAdd < -1000000) = !decide (x.fAdd ≥ -1000000) by rw [Bool.eq_iff_iff]; simp, show decide (x.fAdd > 1000000) = !decide (x.fAdd ≤ 1000000) by rw [Bool.eq_iff_iff]; simp]
  cases decide (x.fVar ≥ -1) <;> cases decide (x.fVar < n) <;> cases decide (x.fAdd ≥ -1000000) <;> cases decide (x.fAdd ≤ 1000000) <;> rfl
def testE (n : Int) (x : Test) : Int := bif (x.fKind != 1) && (x.fKind != 2) then 1 else bif termB n x.fLeft && termB n x.fRight then 0 else 6
theorem one_eq {k : Nat} (n : Int) (x : Test) : difference_one k n x = some (testE n x) := by
  unfold difference_one testE jn; dsimp only
  rw [term_eqB, term_eqB, Option.bind_some, Option.bind_some]
  cases (x.fKind != 1) <;> cases (x.fKind != 2) <;> cases termB n x.fLeft <;> cases termB n x.fRight <;> rfl
theorem ref_one_eq {k : Nat} (n : Int) (x : Test) : ref03_One k n x = some (testE n x) := by
  unfold ref03_One testE jn; dsimp only
  rw [ref_term_eq, ref_term_eq, Option.bind_some, Option.bind_some]
  cases (x.fKind != 1) <;> cases (x.fKind != 2) <;> cases termB n x.fLeft <;> cases termB n x.fRight <;> rfl
def testsE (n : Int) (l : List Test) : Int :=
  bif decide (n < 0) || decide (n > 12) then 6 else bif decide ((l.length : Int) > 40) then 3 else scan (fun i => testE n (rd l (i : Int))) 0 l.length
theorem tests_eq {k : Nat} (hk : 200 ≤ k) (n : Int) (l : List Test) : difference_Valid k n l = some (testsE n l) := by
  unfold difference_Valid testsE jn; dsimp only
  have key : decide ((l.length : Int) > 40) = false → loop1 k (difference_Valid.b0 k n l) 0 = some (scan (fun i => testE n (rd l (i : Int))) 0 l.length) := fun h => by
    have h' : l.length ≤ 40 := by have := of_decide_eq_false h; omega
    refine loop1_eq (fun i => scan (fun i => testE n (rd l (i : Int))) i l.length) l.length (fun rec => ?_) (fun i hi rec ih => ?_) (k := k) (i := 0) (Nat.zero_le _) (by omega)
    · rw [difference_Valid.b0, decide_eq_false (show ¬ (l.length : Int) < (l.length : Int) by omega), cond_false, scan_end]
    · rw [difference_Valid.b0, decide_eq_true (show (i : Int) < (l.length : Int) by omega), cond_true, gd ⟨by omega, by omega⟩, one_eq, Option.bind_some, gd (inR_nat (n := i) (by omega)), ih, scan_step hi]
      cases (testE n (rd l (i : Int)) != 0) <;> rfl
  cases decide (n < 0) <;> cases decide (n > 12) <;> first | rfl | (cases h : decide ((l.length : Int) > 40) <;> first | rfl | exact key h)
theorem ref_tests_eq {k : Nat} (hk : 200 ≤ k) (n : Int) (l : List Test) : ref03_Valid k n l = some (testsE n l) := by
  unfold ref03_Valid testsE jn; dsimp only
  have key : decide ((l.length : Int) > 40) = false → loop1 k (ref03_Valid.b0 k n l) 0 = some (scan (fun i => testE n (rd l (i : Int))) 0 l.length) := fun h => by
    have h' : l.length ≤ 40 := by have := of_decide_eq_false h; omega
    refine loop1_eq (fun i => scan (fun i => testE n (rd l (i : Int))) i l.length) l.length (fun rec => ?_) (fun i hi rec ih => ?_) (k := k) (i := 0) (Nat.zero_le _) (by omega)
    · rw [ref03_Valid.b0, decide_eq_false (show ¬ (l.length : Int) < (l.length : Int) by omega), cond_false, scan_end]
    · rw [ref03_Valid.b0, decide_eq_true (show (i : Int) < (l.length : Int) by omega), cond_true, gd ⟨by omega, by omega⟩, ref_one_eq, Option.bind_some, gd (inR_nat (n := i) (by omega)), ih, scan_step hi]
      cases (testE n (rd l (i : Int)) != 0) <;> rfl
  cases decide (n < 0) <;> cases decide (n > 12) <;> first | rfl | (cases h : decide ((l.length : Int) > 40) <;> first | rfl | exact key h)
theorem Contains_bool {k : Nat} (l : List Bool) (a : Bool) (hk : l.length < k) (hl : l.length ≤ 1000000) :
    slices_Contains_bool k l a = some (anyN (fun j => a == rd l (j : Int)) 0 l.length) := ix_contains l (fun x => some (a == x)) _ k hk hl (fun _ _ => rfl)
def slotBad (t : Types) (p : Pattern) (i : Nat) : Bool :=
  !(attrP t p.fGraph (rd p.fSlots (i : Int)).fNode (rd p.fSlots (i : Int)).fAttr).2 || (!(decide ((rd p.fSlots (i : Int)).fTerm.fVar ≥ -1) && decide ((rd p.fSlots (i : Int)).fTerm.fVar < p.fVars)) || !(decide ((rd p.fSlots (i : Int)).fTerm.fAdd ≥ -1000000) && decide ((rd p.fSlots (i : Int)).fTerm.fAdd ≤ 1000000)))
def hasVar (p : Pattern) (i : Nat) (v : Nat) : Bool := anyN (fun j => (rd p.fSlots (j : Int)).fTerm.fVar == (v : Int)) i p.fSlots.length
def unusedE (p : Pattern) (v : Nat) : Int := bif anyN (fun v => !hasVar p 0 v) v p.fVars.toNat then 9 else 0
def restE (p : Pattern) : Int := bif testsE p.fVars p.fTests != 0 then testsE p.fVars p.fTests else unusedE p 0
def slotsE (t : Types) (p : Pattern) (i : Nat) : Int := bif anyN (slotBad t p) i p.fSlots.length then 6 else restE p
def patE (t : Types) (p : Pattern) : Int :=
  bif validS t != 0 then validS t else bif graphErr p.fGraph != 0 then graphErr p.fGraph else bif !typedB t p.fGraph then 13
  else bif decide (p.fVars < 0) || decide (p.fVars > 12) then 6 else bif decide ((p.fSlots.length : Int) > 10) || decide ((p.fTests.length : Int) > 10) then 3 else slotsE t p 0
structure FewP (p : Pattern) : Prop where
  graph : FewG p.fGraph
  slots : p.fSlots.length ≤ 15
  tests : p.fTests.length ≤ 15
theorem over_of {t : Types} {g : Graph} (ht : FewT t) (hv : validS t = 0) (hg : GoodG g) (hy : typedB t g = true) : Over t g where
  few := ht
  val := hv
  nodes x hx := by
    obtain ⟨j, hj, rfl⟩ := List.mem_iff_getElem.1 hx
    have e : rd g.fNodes (j : Int) = g.fNodes[j] := by simp [rd, List.getD, List.getElem?_eq_getElem hj]
    rw [← e]; exact ⟨(hg.kind j hj).1, typedB_node hy hj⟩
  len := by have := hg.nodes; omega
theorem occurs_eq {k : Nat} (hk : 200 ≤ k) {p : Pattern} (hs : p.fSlots.length ≤ 15) (v : Nat) : ref21_occurs k p (v : Int) = some (hasVar p 0 v) := by
  refine loop1_eq (fun i => hasVar p i v) p.fSlots.length (fun rec => ?_) (fun i hi rec ih => ?_) (k := k) (i := 0) (Nat.zero_le _) (by omega)
  · rw [ref21_occurs.b0, decide_eq_false (show ¬ (p.fSlots.length : Int) < (p.fSlots.length : Int) by omega), cond_false, hasVar, anyN_end]
  · unfold hasVar at ih ⊢
    rw [ref21_occurs.b0, decide_eq_true (show (i : Int) < (p.fSlots.length : Int) by omega), cond_true, gd ⟨by omega, by omega⟩, gd (inR_nat (n := i) (by omega)), ih, anyN_step hi]
    cases ((rd p.fSlots (i : Int)).fTerm.fVar == (v : Int)) <;> rfl
theorem unused_eq {k : Nat} (hk : 200 ≤ k) {p : Pattern} (hs : p.fSlots.length ≤ 15) (h0 : 0 ≤ p.fVars) (h1 : p.fVars ≤ 12) : loop1 k (ref21_Valid.b1 k p) 0 = some (unusedE p 0) := by
  refine loop1_eq (fun i => unusedE p i) p.fVars.toNat (fun rec => ?_) (fun i hi rec ih => ?_) (k := k) (i := 0) (Nat.zero_le _) (by omega)
  · rw [ref21_Valid.b1, decide_eq_false (by omega), cond_false, unusedE, anyN_end]; rfl
  · unfold unusedE at ih ⊢
    rw [ref21_Valid.b1, decide_eq_true (show (i : Int) < p.fVars by omega), cond_true, occurs_eq hk hs, Option.bind_some, gd (inR_nat (n := i) (by omega)), ih, anyN_step hi]
    cases hasVar p 0 i <;> rfl
theorem ref_valid_eq {k : Nat} (hk : 1000 ≤ k) {t : Types} {p : Pattern} (ht : FewT t) (hp : FewP p) : ref21_Valid k t p = some (patE t p) := by
  have hs := hp.slots
  obtain ⟨r, e, hr⟩ := ref04_Valid_out (k := k) (by omega) ht
  unfold ref21_Valid patE jn; dsimp only
  rw [e, Option.bind_some, hr]
  cases hv : (validS t != 0) with
  | true => rfl
  | false =>
    rw [cond_false, cond_false, ref05_Valid_eq (by omega) hp.graph, Option.bind_some]
    cases hg : (graphErr p.fGraph != 0) with
    | true => rfl
    | false =>
      have hg' : graphErr p.fGraph = 0 := by simpa using hg
      have good := graphErr_good hg'
      rw [cond_false, cond_false, ref17_Typed_eq (by omega) t good, Option.bind_some]
      cases hy : typedB t p.fGraph with
      | false => rfl
      | true =>
        have ov := over_of ht (by simpa using hv) good hy
        rw [Bool.not_true, cond_false, cond_false]
        by_cases c0 : p.fVars < 0
        · rw [decide_eq_true c0]; rfl
        · by_cases c1 : p.fVars > 12
          · rw [decide_eq_false c0, decide_eq_true c1]; rfl
          · rw [decide_eq_false c0, decide_eq_false c1, cond_false, cond_false, Bool.or_false, cond_false]
            by_cases c2 : (p.fSlots.length : Int) > 10
            · rw [decide_eq_true c2]; rfl
            · by_cases c3 : (p.fTests.length : Int) > 10
              · rw [decide_eq_false c2, decide_eq_true c3]; rfl
              · rw [decide_eq_false c2, decide_eq_false c3, cond_false, cond_false, Bool.or_false, cond_false]
                refine loop1_eq (fun i => slotsE t p i) p.fSlots.length (fun rec => ?_) (fun i hi rec ih => ?_) (k := k) (i := 0) (Nat.zero_le _) (by omega)
                · rw [ref21_Valid.b0, decide_eq_false (show ¬ (p.fSlots.length : Int) < (p.fSlots.length : Int) by omega), cond_false, ref_tests_eq (by omega), Option.bind_some, unused_eq (by omega) hs (by omega) (by omega), slotsE, anyN_end, restE]
                  cases (testsE p.fVars p.fTests != 0) <;> rfl
                · unfold slotsE at ih ⊢
                  rw [ref21_Valid.b0]; unfold jn; dsimp only
                  rw [decide_eq_true (show (i : Int) < (p.fSlots.length : Int) by omega), cond_true, gd ⟨by omega, by omega⟩, ref_attr_eq hk ov, Option.bind_some, gd (inR_nat (n := i) (by omega)), ih, anyN_step hi, slotBad]
                  unfold ref21_bounded jn; dsimp only
                  rw [show decide ((rd p.fSlots (i : Int)).fTerm.fVar < -1) = !decide ((rd p.fSlots (i : Int)).fTerm.fVar ≥ -1) by rw [Bool.eq_iff_iff]; simp <;> omega, show decide ((rd p.fSlots (i : Int)).fTerm.fVar ≥ p.fVars) = !decide ((rd p.fSlots (i : Int)).fTerm.fVar < p.fVars) by rw [Bool.eq_iff_iff]; simp]
                  cases (attrP t p.fGraph (rd p.fSlots (i : Int)).fNode (rd p.fSlots (i : Int)).fAttr).2 <;> cases decide ((rd p.fSlots (i : Int)).fTerm.fVar ≥ -1) <;> cases decide ((rd p.fSlots (i : Int)).fTerm.fVar < p.fVars) <;> cases decide ((rd p.fSlots (i : Int)).fTerm.fAdd ≥ -1000000) <;> cases decide ((rd p.fSlots (i : Int)).fTerm.fAdd ≤ 1000000) <;> rfl
structure Seen (p : Pattern) (s : List Bool) (i : Nat) : Prop where
  len : (s.length : Int) = p.fVars
  var : ∀ v : Nat, v < s.length → (rd s (v : Int) = true ↔ ∃ j, j < i ∧ (rd p.fSlots (j : Int)).fTerm.fVar = (v : Int))
theorem rd_setB {s : List Bool} {a : Nat} (ha : a < s.length) (v : Nat) : rd (s.set a true) (v : Int) = (if v = a then true else rd s (v : Int)) := by
  unfold rd
  rw [Int.toNat_natCast, List.getD_eq_getElem?_getD, List.getD_eq_getElem?_getD, List.getElem?_set]
  by_cases h : v = a
  · subst h; simp [ha]
  · rw [if_neg (fun e => h e.symm), if_neg h]
theorem Seen.put {p : Pattern} {s : List Bool} {i : Nat} (h : Seen p s i) (h0 : 0 ≤ (rd p.fSlots (i : Int)).fTerm.fVar) (h1 : (rd p.fSlots (i : Int)).fTerm.fVar < (s.length : Int)) : Seen p (s.set ((rd p.fSlots (i : Int)).fTerm.fVar).toNat true) (i + 1) := by
  refine ⟨by rw [List.length_set]; exact h.len, fun v hv => ?_⟩
  rw [List.length_set] at hv
  rw [rd_setB (by omega)]
  by_cases c : v = ((rd p.fSlots (i : Int)).fTerm.fVar).toNat
  · rw [if_pos c]
    exact ⟨fun _ => ⟨i, by omega, by omega⟩, fun _ => rfl⟩
  · rw [if_neg c, h.var v hv]
    constructor
    · rintro ⟨j, hj, e⟩; exact ⟨j, by omega, e⟩
    · rintro ⟨j, hj, e⟩
      rcases Nat.lt_succ_iff_lt_or_eq.1 hj with hj | rfl
      · exact ⟨j, hj, e⟩
      · exact absurd e (by omega)
theorem Seen.skip {p : Pattern} {s : List Bool} {i : Nat} (h : Seen p s i) (h0 : (rd p.fSlots (i : Int)).fTerm.fVar < 0) : Seen p s (i + 1) := by
  refine ⟨h.len, fun v hv => ?_⟩
  rw [h.var v hv]
  constructor
  · rintro ⟨j, hj, e⟩; exact ⟨j, by omega, e⟩
  · rintro ⟨j, hj, e⟩
    rcases Nat.lt_succ_iff_lt_or_eq.1 hj with hj | rfl
    · exact ⟨j, hj, e⟩
    · exact absurd e (by omega)
theorem Seen.all {p : Pattern} {s : List Bool} (h : Seen p s p.fSlots.length) : anyN (fun j => false == rd s (j : Int)) 0 s.length = anyN (fun v => !hasVar p 0 v) 0 p.fVars.toNat := by
  have hl := h.len
  rw [show p.fVars.toNat = s.length by omega]
  rw [Bool.eq_iff_iff, anyN_iff, anyN_iff]
  constructor
  · rintro ⟨j, _, hj, e⟩
    refine ⟨j, Nat.zero_le _, hj, ?_⟩
    have e1 : rd s (j : Int) = false := by simpa using e
    rw [Bool.not_eq_true']
    cases hh : hasVar p 0 j with
    | false => rfl
    | true =>
      obtain ⟨q, _, hq, hv⟩ := anyN_iff.1 hh
      have := (h.var j hj).2 ⟨q, hq, by simpa using hv⟩
      rw [e1] at this; cases this
  · rintro ⟨j, _, hj, e⟩
    refine ⟨j, Nat.zero_le _, hj, ?_⟩
    rw [Bool.not_eq_true'] at e
    cases hr : rd s (j : Int) with
    | false => rfl
    | true =>
      obtain ⟨q, hq, hv⟩ := (h.var j hj).1 hr
      have : hasVar p 0 j = true := anyN_iff.2 ⟨q, Nat.zero_le _, hq, by simpa using hv⟩
      rw [e] at this; cases this
theorem valid_eq {k : Nat} (hk : 1000 ≤ k) {t : Types} {p : Pattern} (ht : FewT t) (hp : FewP p) : attribute_Valid k t p = some (patE t p) := by
  have hs := hp.slots
  have h1 := hp.graph.nodes; have h2 := hp.graph.edges
  obtain ⟨r, e, hr⟩ := types_Valid_out (k := k) (by omega) ht
  unfold attribute_Valid patE jn; dsimp only
  rw [e, Option.bind_some, hr]
  cases hv : (validS t != 0) with
  | true => rfl
  | false =>
    rw [cond_false, cond_false, graph_Valid_eq (by omega) hp.graph, Option.bind_some]
    cases hg : (graphErr p.fGraph != 0) with
    | true => rfl
    | false =>
      have hg' : graphErr p.fGraph = 0 := by simpa using hg
      have good := graphErr_good hg'
      have h3 := ContainsFunc_int (k := k) p.fGraph.fNodes (fun x => attribute_Valid_1 k x t) (fun j => decide (rd p.fGraph.fNodes (j : Int) ≥ (t.fNodes.length : Int))) (by omega) (by omega) (fun j _ => rfl)
      have h4 := ContainsFunc_Edge (k := k) p.fGraph.fEdges (fun x => attribute_Valid_2 k x t) (fun j => decide ((rd p.fGraph.fEdges (j : Int)).fType ≥ (t.fEdges.length : Int))) (by omega) (by omega) (fun j _ => rfl)
      rw [cond_false, cond_false, h3, Option.bind_some, h4, Option.bind_some]
      cases hy : typedB t p.fGraph with
      | false =>
        unfold typedB at hy
        cases q1 : anyN (fun j => decide (rd p.fGraph.fNodes (j : Int) ≥ (t.fNodes.length : Int))) 0 p.fGraph.fNodes.length with
        | true => rfl
        | false =>
          rw [q1, Bool.not_false, Bool.true_and, Bool.not_eq_false'] at hy
          rw [hy]; rfl
      | true =>
        have ov := over_of ht (by simpa using hv) good hy
        unfold typedB at hy
        rw [Bool.and_eq_true, Bool.not_eq_true', Bool.not_eq_true'] at hy
        rw [hy.1, hy.2, cond_false, cond_false, within_eq, Option.bind_some, Bool.not_true, cond_false]
        by_cases c0 : p.fVars < 0
        · rw [decide_eq_true c0, decide_eq_false (show ¬ p.fVars ≥ 0 by omega)]; rfl
        · by_cases c1 : p.fVars > 12
          · rw [decide_eq_false c0, decide_eq_true c1, decide_eq_true (show p.fVars ≥ 0 by omega), decide_eq_false (show ¬ p.fVars ≤ 12 by omega)]; rfl
          · rw [decide_eq_false c0, decide_eq_false c1, decide_eq_true (show p.fVars ≥ 0 by omega), decide_eq_true (show p.fVars ≤ 12 by omega), Bool.and_true, Bool.not_true, cond_false, Bool.or_false, cond_false]
            by_cases c2 : (p.fSlots.length : Int) > 10
            · rw [decide_eq_true c2]; rfl
            · by_cases c3 : (p.fTests.length : Int) > 10
              · rw [decide_eq_false c2, decide_eq_true c3]; rfl
              · rw [decide_eq_false c2, decide_eq_false c3, cond_false, cond_false, Bool.or_false, cond_false, gd (show (0 : Int) ≤ p.fVars ∧ p.fVars ≤ (lim : Int) by unfold lim; omega)]
                refine Out.eq (loop2_out (S := List Bool) (P := fun _ i r => r = slotsE t p i) (I := fun s i => Seen p s i) p.fSlots.length (fun s hs' rec => ?_) (fun s i hi hs' rec ih => ?_) k 0 _ (Nat.zero_le _) (by omega) ⟨by rw [List.length_replicate]; omega, fun v hv => ⟨fun e => ?_, fun ⟨j, hj, _⟩ => by omega⟩⟩)
                · have hl := hs'.len
                  rw [attribute_Valid.b0, decide_eq_false (show ¬ (p.fSlots.length : Int) < (p.fSlots.length : Int) by omega), cond_false, tests_eq (by omega), Option.bind_some, Contains_bool (k := k) s false (by omega) (by omega), Option.bind_some, hs'.all, slotsE, anyN_end, restE]
                  unfold unusedE
                  cases (testsE p.fVars p.fTests != 0) <;> cases anyN (fun v => !hasVar p 0 v) 0 p.fVars.toNat <;> exact ⟨_, rfl, rfl⟩
                · have hl := hs'.len
                  have hi' : inR ((i : Int) + 1) := inR_nat (n := i) (by omega)
                  unfold slotsE at ih ⊢
                  rw [attribute_Valid.b0]; unfold jn; dsimp only
                  rw [decide_eq_true (show (i : Int) < (p.fSlots.length : Int) by omega), cond_true, gd ⟨by omega, by omega⟩, attr_eq hk ov, Option.bind_some, gd (inR_of (x := p.fVars - 1) (by omega)), within_eq, Option.bind_some, within_eq, Option.bind_some, anyN_step hi, slotBad]
                  rw [show decide ((rd p.fSlots (i : Int)).fTerm.fVar ≤ p.fVars - 1) = decide ((rd p.fSlots (i : Int)).fTerm.fVar < p.fVars) by rw [Bool.eq_iff_iff]; simp; omega]
                  cases hA : (attrP t p.fGraph (rd p.fSlots (i : Int)).fNode (rd p.fSlots (i : Int)).fAttr).2 with
                  | false => exact ⟨6, rfl, rfl⟩
                  | true =>
                    rw [Bool.not_true, cond_false, Bool.false_or]
                    cases hB : (decide ((rd p.fSlots (i : Int)).fTerm.fVar ≥ -1) && decide ((rd p.fSlots (i : Int)).fTerm.fVar < p.fVars)) with
                    | false => exact ⟨6, rfl, rfl⟩
                    | true =>
                      rw [Bool.not_true, cond_false, Bool.false_or]
                      rw [Bool.and_eq_true, decide_eq_true_eq, decide_eq_true_eq] at hB
                      cases hC : (decide ((rd p.fSlots (i : Int)).fTerm.fAdd ≥ -1000000) && decide ((rd p.fSlots (i : Int)).fTerm.fAdd ≤ 1000000)) with
                      | false => exact ⟨6, rfl, rfl⟩
                      | true =>
                        rw [Bool.not_true, cond_false, Bool.false_or]
                        by_cases d : (rd p.fSlots (i : Int)).fTerm.fVar ≥ 0
                        · rw [decide_eq_true d, cond_true, gd ⟨by omega, by omega⟩, gd hi']
                          exact ih _ (hs'.put (by omega) (by omega))
                        · rw [decide_eq_false d, cond_false, gd hi']
                          exact ih _ (hs'.skip (by omega))
                · rw [List.length_replicate] at hv
                  simp [rd, List.getD, List.getElem?_replicate, hv] at e
def firstF (e : Nat → Int) (z : Int × Int) : Nat → Nat → Int × Int
  | _, 0 => z
  | i, d + 1 => bif e i != 0 then ((i : Int), e i) else firstF e z (i + 1) d
def first (e : Nat → Int) (z : Int × Int) (i n : Nat) : Int × Int := firstF e z i (n - i)
theorem first_end {e : Nat → Int} {z : Int × Int} {n : Nat} : first e z n n = z := by simp [first, firstF]
theorem first_step {e : Nat → Int} {z : Int × Int} {i n : Nat} (h : i < n) : first e z i n = bif e i != 0 then ((i : Int), e i) else first e z (i + 1) n := by
  have : n - i = (n - (i + 1)) + 1 := by omega
  unfold first; rw [this]; rfl
theorem valid_edge {t : Types} (h : validS t = 0) {j : Nat} (hj : j < t.fEdges.length) : insB (rd t.fEdges (j : Int)).fFrom t = true ∧ insB (rd t.fEdges (j : Int)).fTo t = true := by
  unfold validS at h
  cases h0 : ((t.fNodes.length : Int) == 0) with
  | true => rw [h0] at h; cases h
  | false =>
    cases h1 : decide ((t.fNodes.length : Int) > 12) || decide ((t.fEdges.length : Int) > 20) with
    | true => rw [h0, h1] at h; cases h
    | false =>
      rw [h0, h1, cond_false, cond_false] at h
      unfold valid2S at h
      cases h2 : (scan (nodeErr t) 0 t.fNodes.length != 0) with
      | true => rw [h2, cond_true] at h; rw [h] at h2; cases h2
      | false =>
        rw [h2, cond_false] at h
        have he := scan_zero h j (Nat.zero_le _) hj
        unfold edgeErr at he
        cases a1 : isNameB (rd t.fEdges (j : Int)).fName with
        | false => rw [a1] at he; cases he
        | true =>
          cases a2 : anyN (fun q => (rd t.fEdges (q : Int)).fName == (rd t.fEdges (j : Int)).fName) 0 j with
          | true => rw [a1, a2] at he; cases he
          | false =>
            cases a3 : insB (rd t.fEdges (j : Int)).fFrom t with
            | false => rw [a1, a2, a3] at he; cases he
            | true =>
              cases a4 : insB (rd t.fEdges (j : Int)).fTo t with
              | false => rw [a1, a2, a3, a4] at he; cases he
              | true => exact ⟨rfl, rfl⟩
theorem insB_range {a : Int} {t : Types} (h : insB a t = true) : 0 ≤ a ∧ a < (t.fNodes.length : Int) := by
  unfold insB at h; simpa using h
theorem types_given2_eq {k : Nat} (hk : 200 ≤ k) {t : Types} (ht : FewT t) (hv : validS t = 0) {a b : Int} (h0 : 0 ≤ a) (ha : a < (t.fNodes.length : Int)) (g0 : 0 ≤ b) (gb : b < (t.fNodes.length : Int)) : types_given k t [a, b] = some 0 := by
  obtain ⟨r, e, hr⟩ := types_Valid_out hk ht
  unfold types_given
  rw [e, Option.bind_some, hr, hv]
  rw [ContainsFunc_int (k := k) [a, b] (fun x => types_given_1 k x t) (fun j => decide (rd [a, b] (j : Int) < 0) || decide (rd [a, b] (j : Int) ≥ (t.fNodes.length : Int))) (by simp; omega) (by simp) (fun j _ => by
    simp only [types_given_1, jn]; cases decide (rd [a, b] (j : Int) < 0) <;> rfl)]
  rw [anyN_none fun j _ hj => ?_]
  · rfl
  · have : j = 0 ∨ j = 1 := by simp at hj; omega
    rcases this with rfl | rfl
    · have e : rd [a, b] ((0 : Nat) : Int) = a := rfl
      rw [e, decide_eq_false (by omega), decide_eq_false (by omega)]; rfl
    · have e : rd [a, b] ((1 : Nat) : Int) = b := rfl
      rw [e, decide_eq_false (by omega), decide_eq_false (by omega)]; rfl
def fitsB (t : Types) (e a b : Int) : Bool := isB t.fNodes a (rd t.fEdges e).fFrom && isB t.fNodes b (rd t.fEdges e).fTo
theorem Fits_eq {k : Nat} (hk : 200 ≤ k) {t : Types} (ht : FewT t) (hv : validS t = 0) {e a b : Int} (e0 : 0 ≤ e) (e1 : e < (t.fEdges.length : Int)) (h0 : 0 ≤ a) (ha : a < (t.fNodes.length : Int)) (g0 : 0 ≤ b) (gb : b < (t.fNodes.length : Int)) :
    types_Fits k t e a b = some (fitsB t e a b) := by
  obtain ⟨w, h12, _⟩ := valid_wf hv
  unfold types_Fits fitsB jn; dsimp only
  rw [types_given2_eq hk ht hv h0 ha g0 gb, Option.bind_some, bne_self_eq_false, cond_false, decide_eq_false (show ¬ e < 0 by omega), cond_false, decide_eq_false (show ¬ e ≥ (t.fEdges.length : Int) by omega), cond_false, gd ⟨e0, e1⟩, types_is_eq hk w (by omega) ha, Option.bind_some]
  cases isB t.fNodes a (rd t.fEdges e).fFrom with
  | false => rfl
  | true => rw [cond_true, gd ⟨e0, e1⟩, types_is_eq hk w (by omega) gb]; rfl
theorem ref_Fits_eq {k : Nat} (hk : 200 ≤ k) {t : Types} (ht : FewT t) (hv : validS t = 0) {e a b : Int} (e0 : 0 ≤ e) (e1 : e < (t.fEdges.length : Int)) (h0 : 0 ≤ a) (ha : a < (t.fNodes.length : Int)) (g0 : 0 ≤ b) (gb : b < (t.fNodes.length : Int)) :
    ref04_Fits k t e a b = some (fitsB t e a b) := by
  obtain ⟨w, h12, h20⟩ := valid_wf hv
  have hE := valid_edge hv (j := e.toNat) (by omega)
  rw [Int.toNat_of_nonneg e0] at hE
  have f1 := insB_range hE.1; have f2 := insB_range hE.2
  unfold ref04_Fits fitsB jn; dsimp only
  rw [ref04_given_eq hk ht hv h0 ha g0 gb, Option.bind_some, bne_self_eq_false, cond_false, gd (inR_of (by omega)), ref04_in_eq, Option.bind_some, decide_eq_true (show e ≥ 0 by omega), decide_eq_true (show e ≤ (t.fEdges.length : Int) - 1 by omega), Bool.and_true, Bool.not_true, cond_false, gd ⟨e0, e1⟩,
    ref04_Below1_eq hk w (by omega) h0 ha f1.1, Option.bind_some]
  cases isB t.fNodes a (rd t.fEdges e).fFrom with
  | false => rfl
  | true => rw [cond_true, gd ⟨e0, e1⟩, ref04_Below1_eq hk w (by omega) g0 gb f2.1]; rfl
def outB (l : List Attr) (vs : List Int) (i : Nat) : Bool := decide (rd vs (i : Int) < (rd l (i : Int)).fLow) || decide (rd vs (i : Int) > (rd l (i : Int)).fHigh)
def nodeV (t : Types) (kind : Int) (vs : List Int) : Int :=
  bif decide (kind ≥ (t.fNodes.length : Int)) then 6 else bif (rd t.fNodes kind).fAbstract then 13 else bif ((vs.length : Int) != ((attrsS t.fNodes t.fNodes.length kind).length : Int)) then 20
  else bif anyN (outB (attrsS t.fNodes t.fNodes.length kind) vs) 0 (attrsS t.fNodes t.fNodes.length kind).length then 6 else 0
theorem node_eq {k : Nat} (hk : 1000 ≤ k) {t : Types} (ht : FewT t) (hv : validS t = 0) {a : Int} (h0 : 0 ≤ a) (vs : List Int) : host_node k t a vs = some (nodeV t a vs) := by
  obtain ⟨w, h12, _⟩ := valid_wf hv
  unfold host_node nodeV
  by_cases c : a ≥ (t.fNodes.length : Int)
  · rw [decide_eq_true c]; rfl
  · have ha : a < (t.fNodes.length : Int) := by omega
    have hl := attrsS_len w (fun x hx => ht.nattr x hx) t.fNodes.length a ha
    rw [decide_eq_false c, cond_false, cond_false, gd ⟨h0, ha⟩, Attrs_eq hk ht hv h0 ha, Option.bind_some]
    cases (rd t.fNodes a).fAbstract with
    | true => rfl
    | false =>
      rw [cond_false, cond_false]
      generalize attrsS t.fNodes t.fNodes.length a = l at *
      cases c2 : ((vs.length : Int) != (l.length : Int)) with
      | true => rfl
      | false =>
        have c2' : (vs.length : Int) = (l.length : Int) := by simpa using c2
        rw [cond_false, cond_false]
        refine loop1_eq (fun i => bif anyN (outB l vs) i l.length then 6 else 0) l.length (fun rec => ?_) (fun i hi rec ih => ?_) (k := k) (i := 0) (Nat.zero_le _) (by omega)
        · rw [host_node.b0, decide_eq_false (show ¬ (l.length : Int) < (l.length : Int) by omega), cond_false, anyN_end]; rfl
        · rw [host_node.b0]; unfold jn; dsimp only
          rw [decide_eq_true (show (i : Int) < (l.length : Int) by omega), cond_true, gd ⟨by omega, by omega⟩, gd (show (0 : Int) ≤ (i : Int) ∧ (i : Int) < (vs.length : Int) by omega), gd (inR_nat (n := i) (by omega)), ih, anyN_step hi, outB]
          cases decide (rd vs (i : Int) < (rd l (i : Int)).fLow) with
          | true => rfl
          | false => rw [cond_false, gd (show (0 : Int) ≤ (i : Int) ∧ (i : Int) < (vs.length : Int) by omega)]; cases decide (rd vs (i : Int) > (rd l (i : Int)).fHigh) <;> rfl
theorem ref_node_eq {k : Nat} (hk : 1000 ≤ k) {t : Types} (ht : FewT t) (hv : validS t = 0) {a : Int} (h0 : 0 ≤ a) (vs : List Int) : ref15_node k t a vs = some (nodeV t a vs) := by
  obtain ⟨w, h12, _⟩ := valid_wf hv
  unfold ref15_node nodeV
  by_cases c : a ≥ (t.fNodes.length : Int)
  · rw [decide_eq_true c]; rfl
  · have ha : a < (t.fNodes.length : Int) := by omega
    have hl := attrsS_len w (fun x hx => ht.nattr x hx) t.fNodes.length a ha
    rw [decide_eq_false c, cond_false, cond_false, gd ⟨h0, ha⟩, ref04_Attrs_eq hk ht hv h0 ha, Option.bind_some]
    cases (rd t.fNodes a).fAbstract with
    | true => rfl
    | false =>
      rw [cond_false, cond_false]
      generalize attrsS t.fNodes t.fNodes.length a = l at *
      cases c2 : ((vs.length : Int) != (l.length : Int)) with
      | true => rfl
      | false =>
        have c2' : (vs.length : Int) = (l.length : Int) := by simpa using c2
        have gv : ∀ i, i < l.length → (0 : Int) ≤ (i : Int) ∧ (i : Int) < (vs.length : Int) := fun i hi => by omega
        have gl : ∀ i, i < l.length → (0 : Int) ≤ (i : Int) ∧ (i : Int) < (l.length : Int) := fun i hi => by omega
        rw [cond_false, cond_false]
        refine loop1_eq (fun i => bif anyN (outB l vs) i l.length then 6 else 0) l.length (fun rec => ?_) (fun i hi rec ih => ?_) (k := k) (i := 0) (Nat.zero_le _) (by omega)
        · rw [ref15_node.b0, decide_eq_false (show ¬ (l.length : Int) < (l.length : Int) by omega), cond_false, anyN_end]; rfl
        · rw [ref15_node.b0]; unfold jn; dsimp only
          rw [decide_eq_true (show (i : Int) < (l.length : Int) by omega), cond_true, gd (gv i hi), gd (gl i hi), gd (inR_nat (n := i) (by omega)), ih, anyN_step hi, outB]
          cases decide (rd vs (i : Int) < (rd l (i : Int)).fLow) with
          | true => rfl
          | false => rw [cond_false, gd (gv i hi), gd (gl i hi)]; cases decide (rd vs (i : Int) > (rd l (i : Int)).fHigh) <;> rfl
def edgeV (t : Types) (g : Graph) (i : Nat) : Int :=
  bif decide ((rd g.fEdges (i : Int)).fType ≥ (t.fEdges.length : Int)) then 6 else bif fitsB t (rd g.fEdges (i : Int)).fType (rd g.fNodes (rd g.fEdges (i : Int)).fFrom) (rd g.fNodes (rd g.fEdges (i : Int)).fTo) then 0 else 13
def hostN (t : Types) (h : Host) (i : Nat) : Int × Int := first (fun i => nodeV t (rd h.fGraph.fNodes (i : Int)) (rd h.fValues (i : Int))) (first (edgeV t h.fGraph) (-1, 0) 0 h.fGraph.fEdges.length) i h.fGraph.fNodes.length
def hostV (t : Types) (h : Host) : Int × Int :=
  bif validS t != 0 then (-1, validS t) else bif graphErr h.fGraph != 0 then (-1, graphErr h.fGraph) else bif ((h.fValues.length : Int) != (h.fGraph.fNodes.length : Int)) then (-1, 20) else hostN t h 0
theorem nodes_typed {t : Types} {h : Host} {n : Nat} (hk : ∀ i, i < n → nodeV t (rd h.fGraph.fNodes (i : Int)) (rd h.fValues (i : Int)) = 0) : ∀ i, i < n → rd h.fGraph.fNodes (i : Int) < (t.fNodes.length : Int) := fun i hi => by
  have := hk i hi
  unfold nodeV at this
  by_cases c : rd h.fGraph.fNodes (i : Int) ≥ (t.fNodes.length : Int)
  · rw [decide_eq_true c] at this; cases this
  · omega
theorem host_edges {k : Nat} (hk : 1000 ≤ k) {t : Types} {h : Host} (ht : FewT t) (hv : validS t = 0) (hg : GoodG h.fGraph) (hn : ∀ i, i < h.fGraph.fNodes.length → rd h.fGraph.fNodes (i : Int) < (t.fNodes.length : Int)) :
    loop1 k (host_Valid.b1 k t h) 0 = some (first (edgeV t h.fGraph) (-1, 0) 0 h.fGraph.fEdges.length) ∧ loop1 k (ref15_Valid.b1 k t h) 0 = some (first (edgeV t h.fGraph) (-1, 0) 0 h.fGraph.fEdges.length) := by
  have h1 := hg.nodes; have h2 := hg.edges
  have nd : ∀ x : Int, 0 ≤ x → x < (h.fGraph.fNodes.length : Int) → 0 ≤ rd h.fGraph.fNodes x ∧ rd h.fGraph.fNodes x < (t.fNodes.length : Int) := fun x x0 x1 => by
    have a := (hg.kind x.toNat (by omega)).1; have b := hn x.toNat (by omega)
    rw [Int.toNat_of_nonneg x0] at a b
    exact ⟨a, b⟩
  constructor
  · refine loop1_eq (fun i => first (edgeV t h.fGraph) (-1, 0) i h.fGraph.fEdges.length) h.fGraph.fEdges.length (fun rec => ?_) (fun i hi rec ih => ?_) (k := k) (i := 0) (Nat.zero_le _) (by omega)
    · rw [host_Valid.b1, decide_eq_false (show ¬ (h.fGraph.fEdges.length : Int) < (h.fGraph.fEdges.length : Int) by omega), cond_false, first_end]
    · obtain ⟨r0, ⟨r1, r2⟩, r3, r4⟩ := hg.right i hi
      have n1 := nd _ r1 r2; have n2 := nd _ r3 r4
      rw [host_Valid.b1, decide_eq_true (show (i : Int) < (h.fGraph.fEdges.length : Int) by omega), cond_true, gd ⟨by omega, by omega⟩, first_step hi, edgeV]
      by_cases c : (rd h.fGraph.fEdges (i : Int)).fType ≥ (t.fEdges.length : Int)
      · rw [decide_eq_true c]; rfl
      · rw [decide_eq_false c, cond_false, gd ⟨r1, r2⟩, gd ⟨r3, r4⟩, Fits_eq (by omega) ht hv r0 (by omega) n1.1 n1.2 n2.1 n2.2, Option.bind_some, gd (inR_nat (n := i) (by omega)), ih, cond_false]
        cases fitsB t (rd h.fGraph.fEdges (i : Int)).fType (rd h.fGraph.fNodes (rd h.fGraph.fEdges (i : Int)).fFrom) (rd h.fGraph.fNodes (rd h.fGraph.fEdges (i : Int)).fTo) <;> rfl
  · refine loop1_eq (fun i => first (edgeV t h.fGraph) (-1, 0) i h.fGraph.fEdges.length) h.fGraph.fEdges.length (fun rec => ?_) (fun i hi rec ih => ?_) (k := k) (i := 0) (Nat.zero_le _) (by omega)
    · rw [ref15_Valid.b1, decide_eq_false (show ¬ (h.fGraph.fEdges.length : Int) < (h.fGraph.fEdges.length : Int) by omega), cond_false, first_end]
    · obtain ⟨r0, ⟨r1, r2⟩, r3, r4⟩ := hg.right i hi
      have n1 := nd _ r1 r2; have n2 := nd _ r3 r4
      rw [ref15_Valid.b1, decide_eq_true (show (i : Int) < (h.fGraph.fEdges.length : Int) by omega), cond_true, gd ⟨by omega, by omega⟩, first_step hi, edgeV]
      by_cases c : (rd h.fGraph.fEdges (i : Int)).fType ≥ (t.fEdges.length : Int)
      · rw [decide_eq_true c]; rfl
      · rw [decide_eq_false c, cond_false, gd ⟨r1, r2⟩, gd ⟨r3, r4⟩, ref_Fits_eq (by omega) ht hv r0 (by omega) n1.1 n1.2 n2.1 n2.2, Option.bind_some, gd (inR_nat (n := i) (by omega)), ih, cond_false]
        cases fitsB t (rd h.fGraph.fEdges (i : Int)).fType (rd h.fGraph.fNodes (rd h.fGraph.fEdges (i : Int)).fFrom) (rd h.fGraph.fNodes (rd h.fGraph.fEdges (i : Int)).fTo) <;> rfl
theorem host_nodes {k : Nat} (hk : 1000 ≤ k) {t : Types} {h : Host} (ht : FewT t) (hv : validS t = 0) (hg : GoodG h.fGraph) (hl : h.fValues.length = h.fGraph.fNodes.length) :
    loop1 k (host_Valid.b0 k t h) 0 = some (hostN t h 0) ∧ loop1 k (ref15_Valid.b0 k t h) 0 = some (hostN t h 0) := by
  have h1 := hg.nodes; have h2 := hg.edges
  constructor
  · refine Out.eq (loop1_out (I := fun i => ∀ j, j < i → nodeV t (rd h.fGraph.fNodes (j : Int)) (rd h.fValues (j : Int)) = 0) (P := fun i r => r = hostN t h i) h.fGraph.fNodes.length (fun hI rec => ?_) (fun i hi hI rec ih => ?_) k 0 (Nat.zero_le _) (by omega) (fun j hj => by omega))
    · rw [host_Valid.b0, decide_eq_false (show ¬ (h.fGraph.fNodes.length : Int) < (h.fGraph.fNodes.length : Int) by omega), cond_false, (host_edges hk ht hv hg (nodes_typed hI)).1, hostN, first_end]
      exact ⟨_, rfl, rfl⟩
    · have r0 := (hg.kind i hi).1
      rw [host_Valid.b0, decide_eq_true (show (i : Int) < (h.fGraph.fNodes.length : Int) by omega), cond_true, gd ⟨by omega, by omega⟩, gd ⟨by omega, by omega⟩, node_eq hk ht hv r0, Option.bind_some, gd (inR_nat (n := i) (by omega)), hostN, first_step hi]
      cases c : (nodeV t (rd h.fGraph.fNodes (i : Int)) (rd h.fValues (i : Int)) != 0) with
      | true => exact ⟨_, rfl, rfl⟩
      | false =>
        refine ih fun j hj => ?_
        rcases Nat.lt_succ_iff_lt_or_eq.1 hj with hj | rfl
        · exact hI j hj
        · simpa using c
  · refine Out.eq (loop1_out (I := fun i => ∀ j, j < i → nodeV t (rd h.fGraph.fNodes (j : Int)) (rd h.fValues (j : Int)) = 0) (P := fun i r => r = hostN t h i) h.fGraph.fNodes.length (fun hI rec => ?_) (fun i hi hI rec ih => ?_) k 0 (Nat.zero_le _) (by omega) (fun j hj => by omega))
    · rw [ref15_Valid.b0, decide_eq_false (show ¬ (h.fGraph.fNodes.length : Int) < (h.fGraph.fNodes.length : Int) by omega), cond_false, (host_edges hk ht hv hg (nodes_typed hI)).2, hostN, first_end]
      exact ⟨_, rfl, rfl⟩
    · have r0 := (hg.kind i hi).1
      rw [ref15_Valid.b0, decide_eq_true (show (i : Int) < (h.fGraph.fNodes.length : Int) by omega), cond_true, gd ⟨by omega, by omega⟩, gd ⟨by omega, by omega⟩, ref_node_eq hk ht hv r0, Option.bind_some, gd (inR_nat (n := i) (by omega)), hostN, first_step hi]
      cases c : (nodeV t (rd h.fGraph.fNodes (i : Int)) (rd h.fValues (i : Int)) != 0) with
      | true => exact ⟨_, rfl, rfl⟩
      | false =>
        refine ih fun j hj => ?_
        rcases Nat.lt_succ_iff_lt_or_eq.1 hj with hj | rfl
        · exact hI j hj
        · simpa using c
theorem host_valid_eq {k : Nat} (hk : 1000 ≤ k) {t : Types} {h : Host} (ht : FewT t) (hh : FewG h.fGraph) : Out (host_Valid k t h) (fun r => r.2 = (hostV t h).2 ∧ (validS t = 0 → r = hostV t h)) ∧ Out (ref15_Valid k t h) (fun r => r.2 = (hostV t h).2 ∧ (validS t = 0 → r = hostV t h)) := by
  obtain ⟨r, e, hr⟩ := types_Valid_out (k := k) (by omega) ht
  obtain ⟨r', e', hr'⟩ := ref04_Valid_out (k := k) (by omega) ht
  unfold host_Valid ref15_Valid hostV
  rw [e, Option.bind_some, hr, e', Option.bind_some, hr']
  cases hv : (validS t != 0) with
  | true => exact ⟨⟨_, rfl, rfl, fun h => by rw [h] at hv; cases hv⟩, ⟨_, rfl, rfl, fun h => by rw [h] at hv; cases hv⟩⟩
  | false =>
    have hv' : validS t = 0 := by simpa using hv
    rw [cond_false, cond_false, cond_false, graph_Valid_eq (by omega) hh, ref05_Valid_eq (by omega) hh, Option.bind_some, Option.bind_some]
    cases hg : (graphErr h.fGraph != 0) with
    | true => exact ⟨⟨_, rfl, rfl, fun _ => rfl⟩, ⟨_, rfl, rfl, fun _ => rfl⟩⟩
    | false =>
      have good := graphErr_good (show graphErr h.fGraph = 0 by simpa using hg)
      rw [cond_false, cond_false, cond_false]
      cases hl : ((h.fValues.length : Int) != (h.fGraph.fNodes.length : Int)) with
      | true => exact ⟨⟨_, rfl, rfl, fun _ => rfl⟩, ⟨_, rfl, rfl, fun _ => rfl⟩⟩
      | false =>
        have hl' : h.fValues.length = h.fGraph.fNodes.length := by have : (h.fValues.length : Int) = (h.fGraph.fNodes.length : Int) := by simpa using hl
                                                                   omega
        obtain ⟨p, q⟩ := host_nodes hk ht hv' good hl'
        rw [cond_false, cond_false, cond_false, p, q]
        exact ⟨⟨_, rfl, rfl, fun _ => rfl⟩, ⟨_, rfl, rfl, fun _ => rfl⟩⟩
def Mid (x : Int) : Prop := -2305843009213693952 ≤ x ∧ x ≤ 2305843009213693952
def sgN (s : Int) : Int := if s < 0 then -1 else 0
theorem shR63 (a : Int) (h : Mid a) : shR .i64 a 63 = sgN a := by
  have h1 := h.1; have h2 := h.2
  have e : shR .i64 a 63 = a.fdiv 9223372036854775808 := rfl
  rw [e, Int.fdiv_eq_ediv_of_nonneg _ (by omega)]
  unfold sgN; split <;> omega
theorem wide_eq {k : Nat} {a b : Int} (ha : Mid a) (hb : Mid b) : difference_wide k a b = some (sgN (a + b), (a + b) % 18446744073709551616) := by
  have a1 := ha.1; have a2 := ha.2; have b1 := hb.1; have b2 := hb.2
  unfold difference_wide
  rw [shR63 a ha, shR63 b hb, IntKind.wrap_u64, IntKind.wrap_u64, gd ⟨by omega, by omega, by omega, by omega⟩]
  have hw : IntKind.i64.wrap ((a % 18446744073709551616 + b % 18446744073709551616 + 0) / 18446744073709551616) = (a % 18446744073709551616 + b % 18446744073709551616 + 0) / 18446744073709551616 := wrap_inR (inR_of (by omega))
  rw [hw]
  have s1 : sgN a + sgN b + (a % 18446744073709551616 + b % 18446744073709551616 + 0) / 18446744073709551616 = sgN (a + b) := by
    unfold sgN; split <;> split <;> split <;> omega
  rw [s1, gd (inR_of (by unfold sgN; split <;> split <;> omega)), gd (inR_of (by unfold sgN; split <;> omega))]
  congr 2
  omega
def valT (x : Term) (vs : List Int) : Option Int := if x.fVar = -1 then some x.fAdd else if x.fVar < 0 ∨ x.fVar ≥ (vs.length : Int) then none else some (rd vs x.fVar + x.fAdd)
theorem valT_0 {x : Term} {vs : List Int} (c : x.fVar = -1) : valT x vs = some x.fAdd := if_pos c
theorem valT_n {x : Term} {vs : List Int} (c : ¬ x.fVar = -1) (h : x.fVar < 0 ∨ x.fVar ≥ (vs.length : Int)) : valT x vs = none := by unfold valT; rw [if_neg c, if_pos h]
theorem valT_s {x : Term} {vs : List Int} (c : ¬ x.fVar = -1) (h : ¬ (x.fVar < 0 ∨ x.fVar ≥ (vs.length : Int))) : valT x vs = some (rd vs x.fVar + x.fAdd) := by unfold valT; rw [if_neg c, if_neg h]
theorem holds1_eq {k : Nat} (x : Term) (vs : List Int) (hv : ∀ v ∈ vs, Mid v) (hx : Mid x.fAdd) : difference_Holds_1 k x vs = some (match valT x vs with | some s => (sgN s, s % 18446744073709551616, true) | none => (0, 0, false)) := by
  unfold difference_Holds_1 jn; dsimp only
  by_cases c : x.fVar = -1
  · rw [valT_0 c, c, beq_self_eq_true, cond_true, wide_eq ⟨by omega, by omega⟩ hx, Option.bind_some, Int.zero_add]
  · rw [show (x.fVar == -1) = false by rw [beq_eq_false_iff_ne]; exact c, cond_false]
    by_cases d : x.fVar < 0
    · rw [decide_eq_true d, valT_n c (.inl d)]; rfl
    · by_cases e : x.fVar ≥ (vs.length : Int)
      · rw [decide_eq_false d, decide_eq_true e, valT_n c (.inr e)]; rfl
      · rw [decide_eq_false d, decide_eq_false e, valT_s c (by omega), cond_false, cond_false, gd ⟨by omega, by omega⟩, wide_eq (hv _ (rd_mem (by omega) (by omega))) hx]; rfl
theorem refval_eq {k : Nat} (x : Term) (vs : List Int) (hv : ∀ v ∈ vs, Mid v) (hx : Mid x.fAdd) : ref03_value k x vs = some (match valT x vs with | some s => (s, true) | none => (0, false)) := by
  have x1 := hx.1; have x2 := hx.2
  unfold ref03_value jn; dsimp only
  by_cases c : x.fVar = -1
  · rw [valT_0 c, c, beq_self_eq_true, cond_true]
  · rw [show (x.fVar == -1) = false by rw [beq_eq_false_iff_ne]; exact c, cond_false]
    by_cases d : x.fVar < 0
    · rw [decide_eq_true d, valT_n c (.inl d)]; rfl
    · by_cases e : x.fVar ≥ (vs.length : Int)
      · rw [decide_eq_false d, decide_eq_true e, valT_n c (.inr e)]; rfl
      · have m := hv _ (rd_mem (l := vs) (x := x.fVar) (by omega) (by omega))
        have m1 := m.1; have m2 := m.2
        rw [decide_eq_false d, decide_eq_false e, valT_s c (by omega), cond_false, cond_false, gd ⟨by omega, by omega⟩, gd (inR_of (by omega))]
theorem valT_mid {x : Term} {vs : List Int} {s : Int} (hv : ∀ v ∈ vs, Mid v) (hx : Mid x.fAdd) (h : valT x vs = some s) : -4611686018427387904 ≤ s ∧ s ≤ 4611686018427387904 := by
  have x1 := hx.1; have x2 := hx.2
  unfold valT at h
  split at h
  · injection h with h; omega
  · split at h
    · cases h
    · injection h with h
      have m := hv _ (rd_mem (l := vs) (x := x.fVar) (by omega) (by omega))
      have m1 := m.1; have m2 := m.2
      omega
def ordI (a b : Int) : Int := if a < b then -1 else if a > b then 1 else 0
theorem cmpI_eq {k : Nat} (a b : Int) : cmp_Compare_int k a b = some (ordI a b) := by
  unfold cmp_Compare_int cmp_isNaN_int ordI
  rw [Option.bind_some, Option.bind_some, bne_self_eq_false, bne_self_eq_false, cond_false, cond_false]
  by_cases c : a < b
  · rw [decide_eq_true c, if_pos c]; rfl
  · rw [decide_eq_false c, if_neg c, cond_false]
    by_cases d : a > b
    · rw [decide_eq_true d, if_pos d]; rfl
    · rw [decide_eq_false d, if_neg d]; rfl
theorem cmpU_eq {k : Nat} (a b : Int) : cmp_Compare_uint64 k a b = some (ordI a b) := by
  unfold cmp_Compare_uint64 cmp_isNaN_uint64 ordI
  rw [Option.bind_some, Option.bind_some, bne_self_eq_false, bne_self_eq_false, cond_false, cond_false]
  by_cases c : a < b
  · rw [decide_eq_true c, if_pos c]; rfl
  · rw [decide_eq_false c, if_neg c, cond_false]
    by_cases d : a > b
    · rw [decide_eq_true d, if_pos d]; rfl
    · rw [decide_eq_false d, if_neg d]; rfl
theorem or_eq {k : Nat} (hk : 200 ≤ k) (a b : Int) : cmp_Or_int k [a, b] = some (if a ≠ 0 then a else b) := by
  refine loop1_eq (fun i => match i with | 0 => if a ≠ 0 then a else b | 1 => b | _ => 0) 2 (fun rec => ?_) (fun i hi rec ih => ?_) (k := k) (i := 0) (Nat.zero_le _) (by omega)
  · rfl
  · match i, hi, ih with
    | 0, _, ih =>
      rw [cmp_Or_int.b0, decide_eq_true (show ((0 : Nat) : Int) < (([a, b] : List Int).length : Int) by simp), cond_true, gd ⟨by simp, by simp⟩, gd (inR_nat (n := 0) (by omega)), ih]
      show (bif (a != 0) then some a else some b) = some (if a ≠ 0 then a else b)
      by_cases c : a = 0
      · subst c; rfl
      · rw [show (a != 0) = true by simpa using c, if_pos c]; rfl
    | 1, _, ih =>
      rw [cmp_Or_int.b0, decide_eq_true (show ((1 : Nat) : Int) < (([a, b] : List Int).length : Int) by simp), cond_true, gd ⟨by simp, by simp⟩, gd (inR_nat (n := 1) (by omega)), ih]
      show (bif (b != 0) then some b else some 0) = some b
      by_cases c : b = 0
      · subst c; rfl
      · rw [show (b != 0) = true by simpa using c]; rfl
theorem order_eq {s u : Int} (hs : -4611686018427387904 ≤ s ∧ s ≤ 4611686018427387904) (hu : -4611686018427387904 ≤ u ∧ u ≤ 4611686018427387904) :
    (if ordI (sgN s) (sgN u) ≠ 0 then ordI (sgN s) (sgN u) else ordI (s % 18446744073709551616) (u % 18446744073709551616)) = ordI s u := by
  unfold ordI sgN
  repeat' split
  all_goals first | omega | contradiction
theorem holds_eq {k : Nat} (hk : 200 ≤ k) (x : Test) (vs : List Int) (hv : ∀ v ∈ vs, Mid v) (hl : Mid x.fLeft.fAdd) (hr : Mid x.fRight.fAdd) : ∃ b, difference_Holds k x vs = some b ∧ ref03_Holds k x vs = some b := by
  unfold difference_Holds ref03_Holds jn; dsimp only
  rw [holds1_eq _ _ hv hl, holds1_eq _ _ hv hr, refval_eq _ _ hv hl, refval_eq _ _ hv hr, Option.bind_some, Option.bind_some, Option.bind_some, Option.bind_some]
  cases c1 : valT x.fLeft vs with
  | none => exact ⟨false, rfl, rfl⟩
  | some s =>
    cases c2 : valT x.fRight vs with
    | none => exact ⟨false, rfl, rfl⟩
    | some u =>
      dsimp only
      have b1 := valT_mid hv hl c1; have b2 := valT_mid hv hr c2
      rw [Bool.not_true, cond_false, cond_false, cond_false, cond_false, cmpI_eq, Option.bind_some, cmpU_eq, Option.bind_some, or_eq hk, Option.bind_some, order_eq b1 b2]
      have e1 : decide (ordI s u ≤ 0) = decide (s ≤ u) := by
        unfold ordI; rw [Bool.eq_iff_iff, decide_eq_true_eq, decide_eq_true_eq]; split
        · omega
        · split <;> omega
      have e2 : (ordI s u == 0) = (s == u) := by
        unfold ordI; rw [Bool.eq_iff_iff, beq_iff_eq, beq_iff_eq]; split
        · omega
        · split <;> omega
      rw [e1, e2]
      cases (x.fKind == 1) <;> cases decide (s ≤ u) <;> cases (x.fKind == 2) <;> exact ⟨_, rfl, rfl⟩
theorem loop1_two {R : Type} {b b' : (Int → Option R) → Int → Option R} {Q : R → Prop} (n : Nat) (hend : ∀ rec rec', ∃ r, b rec (n : Int) = some r ∧ b' rec' (n : Int) = some r ∧ Q r)
    (hstep : ∀ i, i < n → ∀ rec rec' : Int → Option R, (∃ r, rec ((i : Int) + 1) = some r ∧ rec' ((i : Int) + 1) = some r ∧ Q r) → ∃ r, b rec (i : Int) = some r ∧ b' rec' (i : Int) = some r ∧ Q r) :
    ∀ k i : Nat, i ≤ n → n < k + i → ∃ r, loop1 k b (i : Int) = some r ∧ loop1 k b' (i : Int) = some r ∧ Q r
  | 0, i, h, hk => by omega
  | k + 1, i, h, hk => by
    rcases Nat.lt_or_ge i n with hl | hl
    · refine hstep i hl _ _ ?_
      have := loop1_two n hend hstep k (i + 1) hl (by omega)
      simpa using this
    · have : i = n := by omega
      subst this
      exact hend _ _
theorem loop3_two {S T R : Type} {b b' : (S → T → Int → Option R) → S → T → Int → Option R} {I : S → T → Nat → Prop} {Q : R → Prop} (n : Nat) (hend : ∀ s u, I s u n → ∀ rec rec', ∃ r, b rec s u (n : Int) = some r ∧ b' rec' s u (n : Int) = some r ∧ Q r)
    (hstep : ∀ s u i, i < n → I s u i → ∀ rec rec' : S → T → Int → Option R, (∀ s' u', I s' u' (i + 1) → ∃ r, rec s' u' ((i : Int) + 1) = some r ∧ rec' s' u' ((i : Int) + 1) = some r ∧ Q r) → ∃ r, b rec s u (i : Int) = some r ∧ b' rec' s u (i : Int) = some r ∧ Q r) :
    ∀ (k i : Nat) (s : S) (u : T), i ≤ n → n < k + i → I s u i → ∃ r, loop3 k b s u (i : Int) = some r ∧ loop3 k b' s u (i : Int) = some r ∧ Q r
  | 0, i, s, u, h, hk, _ => by omega
  | k + 1, i, s, u, h, hk, hi => by
    rcases Nat.lt_or_ge i n with hl | hl
    · refine hstep s u i hl hi _ _ fun s' u' hI => ?_
      have := loop3_two n hend hstep k (i + 1) s' u' hl (by omega) hI
      simpa using this
    · have : i = n := by omega
      subst this
      exact hend s u hi _ _
def Sm (x : Int) : Prop := -1000000 ≤ x ∧ x ≤ 1000000
structure SlotOk (p : Pattern) (h : Host) (m : Morphism) (i : Nat) : Prop where
  n0 : 0 ≤ (rd p.fSlots (i : Int)).fNode
  n1 : (rd p.fSlots (i : Int)).fNode < (m.fNodes.length : Int)
  m0 : 0 ≤ rd m.fNodes (rd p.fSlots (i : Int)).fNode
  m1 : rd m.fNodes (rd p.fSlots (i : Int)).fNode < (h.fValues.length : Int)
  a0 : 0 ≤ (rd p.fSlots (i : Int)).fAttr
  a1 : (rd p.fSlots (i : Int)).fAttr < ((rd h.fValues (rd m.fNodes (rd p.fSlots (i : Int)).fNode)).length : Int)
  v1 : (rd p.fSlots (i : Int)).fTerm.fVar < p.fVars
  add : Sm (rd p.fSlots (i : Int)).fTerm.fAdd
  val : Sm (rd (rd h.fValues (rd m.fNodes (rd p.fSlots (i : Int)).fNode)) (rd p.fSlots (i : Int)).fAttr)
structure SolveOk (p : Pattern) (h : Host) (m : Morphism) : Prop where
  v0 : 0 ≤ p.fVars
  v1 : p.fVars ≤ 12
  slots : p.fSlots.length ≤ 15
  tests : p.fTests.length ≤ 40
  slot : ∀ i, i < p.fSlots.length → SlotOk p h m i
  left : ∀ i, i < p.fTests.length → Sm (rd p.fTests (i : Int)).fLeft.fAdd
  right : ∀ i, i < p.fTests.length → Sm (rd p.fTests (i : Int)).fRight.fAdd
theorem Sm.mid {x : Int} (h : Sm x) : Mid x := ⟨by have := h.1; omega, by have := h.2; omega⟩
theorem set_all {α : Type} {P : α → Prop} {l : List α} {i : Nat} {a : α} (h : ∀ x ∈ l, P x) (ha : P a) : ∀ x ∈ l.set i a, P x := fun x hx => by
  rcases List.mem_or_eq_of_mem_set hx with h' | rfl
  · exact h x h'
  · exact ha
theorem value_two {k : Nat} (x : Term) (vs : List Int) (hv : ∀ v ∈ vs, Mid v) (h1 : x.fVar < (vs.length : Int)) (ha : Sm x.fAdd) : ∃ r, attribute_value k x vs = some r ∧ ref21_value k x vs = some r := by
  have a1 := ha.1; have a2 := ha.2
  unfold attribute_value ref21_value
  by_cases c : x.fVar < 0
  · rw [decide_eq_true c]; exact ⟨_, rfl, rfl⟩
  · have m := hv _ (rd_mem (l := vs) (x := x.fVar) (by omega) h1)
    have m1 := m.1; have m2 := m.2
    rw [decide_eq_false c, cond_false, gd ⟨by omega, h1⟩, gd (inR_of (by omega))]; exact ⟨_, rfl, rfl⟩
theorem tests_two {k : Nat} (hk : 200 ≤ k) {p : Pattern} {h : Host} {m : Morphism} (ok : SolveOk p h m) (vs : List Int) (hv : ∀ v ∈ vs, Mid v) (hvl : vs.length ≤ 12) : ∃ r, loop1 k (attribute_solve.b1 k p vs) 0 = some r ∧ loop1 k (ref21_Values.b1 k p vs) 0 = some r ∧ r.1.length ≤ 12 := by
  have ht := ok.tests
  refine loop1_two (Q := fun r : List Int × Int => r.1.length ≤ 12) p.fTests.length (fun rec rec' => ?_) (fun i hi rec rec' ih => ?_) k 0 (Nat.zero_le _) (by omega)
  · rw [attribute_solve.b1, ref21_Values.b1, decide_eq_false (show ¬ (p.fTests.length : Int) < (p.fTests.length : Int) by omega), cond_false, cond_false]; exact ⟨_, rfl, rfl, hvl⟩
  · obtain ⟨b, e1, e2⟩ := holds_eq hk (rd p.fTests (i : Int)) vs hv (ok.left i hi).mid (ok.right i hi).mid
    have g1 : (0 : Int) ≤ (i : Int) ∧ (i : Int) < (p.fTests.length : Int) := ⟨by omega, by omega⟩
    have g2 : inR ((i : Int) + 1) := inR_nat (n := i) (by omega)
    rw [attribute_solve.b1, ref21_Values.b1, decide_eq_true (show (i : Int) < (p.fTests.length : Int) by omega), cond_true, cond_true, gd g1, gd g1, e1, e2, Option.bind_some, Option.bind_some, gd g2, gd g2]
    cases b with
    | false => exact ⟨_, rfl, rfl, Nat.zero_le _⟩
    | true => exact ih
theorem solve_two {k : Nat} (hk : 1000 ≤ k) {p : Pattern} {h : Host} {m : Morphism} (ok : SolveOk p h m) : ∃ r, attribute_solve k p h m = some r ∧ ref21_Values k p h m = some r ∧ r.1.length ≤ 12 := by
  have v0 := ok.v0; have v1 := ok.v1; have hs := ok.slots
  have gl : (0 : Int) ≤ p.fVars ∧ p.fVars ≤ (lim : Int) := by unfold lim; omega
  unfold attribute_solve ref21_Values jn; dsimp only
  rw [gd gl, gd gl, gd gl, gd gl]
  refine loop3_two (Q := fun r : List Int × Int => r.1.length ≤ 12) (I := fun s u _ => (s.length : Int) = p.fVars ∧ (u.length : Int) = p.fVars ∧ ∀ v ∈ s, Mid v) p.fSlots.length (fun s u hI rec rec' => ?_) (fun s u i hi hI rec rec' ih => ?_) k 0 _ _ (Nat.zero_le _) (by omega)
    ⟨by rw [List.length_replicate]; omega, by rw [List.length_replicate]; omega, fun v hv => by rw [List.eq_of_mem_replicate hv]; exact ⟨by omega, by omega⟩⟩
  · rw [attribute_solve.b0, ref21_Values.b0, decide_eq_false (show ¬ (p.fSlots.length : Int) < (p.fSlots.length : Int) by omega), cond_false, cond_false]
    exact tests_two (by omega) ok s hI.2.2 (by have := hI.1; omega)
  · obtain ⟨l1, l2, hm⟩ := hI
    have so := ok.slot i hi
    have a1 := so.add.1; have a2 := so.add.2; have b1 := so.val.1; have b2 := so.val.2
    have g1 : (0 : Int) ≤ (i : Int) ∧ (i : Int) < (p.fSlots.length : Int) := ⟨by omega, by omega⟩
    have g2 : inR ((i : Int) + 1) := inR_nat (n := i) (by omega)
    have wn : (0 : Int) ≤ (rd p.fSlots (i : Int)).fNode ∧ (rd p.fSlots (i : Int)).fNode < (m.fNodes.length : Int) := ⟨so.n0, so.n1⟩
    have wm : (0 : Int) ≤ rd m.fNodes (rd p.fSlots (i : Int)).fNode ∧ rd m.fNodes (rd p.fSlots (i : Int)).fNode < (h.fValues.length : Int) := ⟨so.m0, so.m1⟩
    have wa : (0 : Int) ≤ (rd p.fSlots (i : Int)).fAttr ∧ (rd p.fSlots (i : Int)).fAttr < ((rd h.fValues (rd m.fNodes (rd p.fSlots (i : Int)).fNode)).length : Int) := ⟨so.a0, so.a1⟩
    have wi : inR (rd (rd h.fValues (rd m.fNodes (rd p.fSlots (i : Int)).fNode)) (rd p.fSlots (i : Int)).fAttr - (rd p.fSlots (i : Int)).fTerm.fAdd) := inR_of (by omega)
    rw [attribute_solve.b0, ref21_Values.b0]; unfold jn; dsimp only
    rw [decide_eq_true (show (i : Int) < (p.fSlots.length : Int) by omega), cond_true, cond_true, gd g1, gd g1, gd wn, gd wn, gd wm, gd wm, gd wa, gd wa]
    have fin : ∀ (s' : List Int) (u' : List Bool), (s'.length : Int) = p.fVars → (u'.length : Int) = p.fVars → (∀ v ∈ s', Mid v) → ∃ r,
        ((attribute_value k (rd p.fSlots (i : Int)).fTerm s').bind fun t => (bif (t != rd (rd h.fValues (rd m.fNodes (rd p.fSlots (i : Int)).fNode)) (rd p.fSlots (i : Int)).fAttr) then some ([], 11) else (if inR ((i : Int) + 1) then rec s' u' ((i : Int) + 1) else none))) = some r ∧
        ((ref21_value k (rd p.fSlots (i : Int)).fTerm s').bind fun t => (bif (t != rd (rd h.fValues (rd m.fNodes (rd p.fSlots (i : Int)).fNode)) (rd p.fSlots (i : Int)).fAttr) then some ([], 11) else (if inR ((i : Int) + 1) then rec' s' u' ((i : Int) + 1) else none))) = some r ∧ r.1.length ≤ 12 := fun s' u' q1 q2 q3 => by
      obtain ⟨r, e1, e2⟩ := value_two (k := k) (rd p.fSlots (i : Int)).fTerm s' q3 (by rw [q1]; exact so.v1) so.add
      rw [e1, e2, Option.bind_some, Option.bind_some, gd g2, gd g2]
      cases (r != rd (rd h.fValues (rd m.fNodes (rd p.fSlots (i : Int)).fNode)) (rd p.fSlots (i : Int)).fAttr) with
      | true => exact ⟨_, rfl, rfl, Nat.zero_le _⟩
      | false => exact ih s' u' ⟨q1, q2, q3⟩
    by_cases c : (rd p.fSlots (i : Int)).fTerm.fVar ≥ 0
    · have w1 : (0 : Int) ≤ (rd p.fSlots (i : Int)).fTerm.fVar ∧ (rd p.fSlots (i : Int)).fTerm.fVar < (u.length : Int) := ⟨c, by rw [l2]; exact so.v1⟩
      have w2 : (0 : Int) ≤ (rd p.fSlots (i : Int)).fTerm.fVar ∧ (rd p.fSlots (i : Int)).fTerm.fVar < (s.length : Int) := ⟨c, by rw [l1]; exact so.v1⟩
      rw [decide_eq_true c, cond_true, cond_true, gd w1, gd w1]
      cases rd u (rd p.fSlots (i : Int)).fTerm.fVar with
      | true =>
        rw [Bool.not_true, cond_false, cond_false, gd w1]
        exact fin s u l1 l2 hm
      | false =>
        rw [Bool.not_false, cond_true, cond_true, gd wi, gd w2, gd w1, gd w1, gd wi, gd w2]
        exact fin _ _ (by rw [List.length_set]; exact l1) (by rw [List.length_set]; exact l2) (set_all hm ⟨by omega, by omega⟩)
    · rw [decide_eq_false c, cond_false, cond_false]
      exact fin s u l1 l2 hm
theorem few21_eq {k : Nat} (p : Pattern) : ref21_Few k p = some ((decide ((p.fGraph.fNodes.length : Int) ≤ 45) && decide ((p.fGraph.fEdges.length : Int) ≤ 90)) && (decide ((p.fSlots.length : Int) ≤ 15) && decide ((p.fTests.length : Int) ≤ 15))) := by
  unfold ref21_Few jn; dsimp only
  rw [ref05_Few_eq, Option.bind_some]
  cases (decide ((p.fGraph.fNodes.length : Int) ≤ 45) && decide ((p.fGraph.fEdges.length : Int) ≤ 90)) <;> cases decide ((p.fSlots.length : Int) ≤ 15) <;> rfl
structure FewH (h : Host) : Prop where
  graph : FewG h.fGraph
  len : h.fValues.length ≤ 45
  each : ∀ j : Nat, j < h.fValues.length → (rd h.fValues (j : Int)).length ≤ 12
theorem few15_out {k : Nat} (hk : 200 ≤ k) (h : Host) : Out (ref15_Few k h) (fun b => b = true → FewH h) := by
  unfold ref15_Few jn; dsimp only
  rw [ref05_Few_eq, Option.bind_some]
  cases c : (decide ((h.fGraph.fNodes.length : Int) ≤ 45) && decide ((h.fGraph.fEdges.length : Int) ≤ 90)) with
  | false => exact ⟨false, rfl, fun e => by cases e⟩
  | true =>
    rw [Bool.and_eq_true, decide_eq_true_eq, decide_eq_true_eq] at c
    rw [Bool.not_true, cond_false]
    by_cases d : (h.fValues.length : Int) > 45
    · rw [decide_eq_true d, cond_true]; exact ⟨false, rfl, fun e => by cases e⟩
    · rw [decide_eq_false d, cond_false]
      refine loop1_out (I := fun i => ∀ j : Nat, j < i → (rd h.fValues (j : Int)).length ≤ 12) (P := fun _ b => b = true → FewH h) h.fValues.length (fun hI rec => ?_) (fun i hi hI rec ih => ?_) k 0 (Nat.zero_le _) (by omega) (fun j hj => by omega)
      · rw [ref15_Few.b0, decide_eq_false (show ¬ (h.fValues.length : Int) < (h.fValues.length : Int) by omega), cond_false]
        exact ⟨true, rfl, fun _ => ⟨⟨by omega, by omega⟩, by omega, hI⟩⟩
      · rw [ref15_Few.b0, decide_eq_true (show (i : Int) < (h.fValues.length : Int) by omega), cond_true, gd ⟨by omega, by omega⟩, gd (inR_nat (n := i) (by omega))]
        by_cases e : ((rd h.fValues (i : Int)).length : Int) > 12
        · rw [decide_eq_true e, cond_true]; exact ⟨false, rfl, fun e => by cases e⟩
        · rw [decide_eq_false e, cond_false]
          refine ih fun j hj => ?_
          rcases Nat.lt_succ_iff_lt_or_eq.1 hj with hj | rfl
          · exact hI j hj
          · omega
structure Lit21 (t : Types) (p : Pattern) (h : Host) : Prop where
  pat : FewP p
  host : FewH h
  light : LightP t p.fGraph h.fGraph
theorem light_out {k : Nat} (hk : 200 ≤ k) {t : Types} (p : Pattern) (h : Host) (hA : ∀ n ∈ t.fNodes, n.fAttrs.length ≤ 140737488351232) : Out (ref21_Light k t p h) (fun b => b = true → Lit21 t p h) := by
  unfold ref21_Light jn; dsimp only
  rw [few21_eq, Option.bind_some]
  cases c : ((decide ((p.fGraph.fNodes.length : Int) ≤ 45) && decide ((p.fGraph.fEdges.length : Int) ≤ 90)) && (decide ((p.fSlots.length : Int) ≤ 15) && decide ((p.fTests.length : Int) ≤ 15))) with
  | false => exact ⟨false, rfl, fun e => by cases e⟩
  | true =>
    simp only [Bool.and_eq_true, decide_eq_true_eq] at c
    rw [cond_true]
    obtain ⟨b, e, hb⟩ := few15_out hk h
    rw [e, Option.bind_some]
    cases b with
    | false => exact ⟨false, rfl, fun e => by cases e⟩
    | true =>
      obtain ⟨b', e', hb'⟩ := ref17_Light_out (k := k) hk (t := t) (p := p.fGraph) (g := h.fGraph) hA
      rw [cond_true, e', Option.bind_some]
      exact ⟨b', rfl, fun q => ⟨⟨⟨by omega, by omega⟩, by omega, by omega⟩, hb rfl, hb' q⟩⟩
theorem copied21 {k : Nat} {p : Pattern} (hp : FewP p) : ref21_Copied k p = some p := by
  have h1 := hp.graph.nodes; have h2 := hp.graph.edges; have h3 := hp.slots; have h4 := hp.tests
  unfold ref21_Copied ref05_Copied
  rw [gd (show p.fGraph.fNodes.length ≤ lim by unfold lim; omega), gd (show p.fGraph.fEdges.length ≤ lim by unfold lim; omega), Option.bind_some, gd (show p.fSlots.length ≤ lim by unfold lim; omega), gd (show p.fTests.length ≤ lim by unfold lim; omega)]
theorem copied15 {k : Nat} (hk : 200 ≤ k) {h : Host} (hh : FewH h) : ref15_Copied k h = some h := by
  have h1 := hh.graph.nodes; have h2 := hh.graph.edges; have h3 := hh.len
  unfold ref15_Copied ref05_Copied
  rw [gd (show h.fGraph.fNodes.length ≤ lim by unfold lim; omega), gd (show h.fGraph.fEdges.length ≤ lim by unfold lim; omega), Option.bind_some]
  refine Out.eq (loop2_out (S := List (List Int)) (P := fun _ _ r => r = h) (I := fun s i => s = h.fValues.take i) h.fValues.length (fun s hs rec => ?_) (fun s i hi hs rec ih => ?_) k 0 [] (Nat.zero_le _) (by omega) rfl)
  · rw [ref15_Copied.b0, decide_eq_false (show ¬ (h.fValues.length : Int) < (h.fValues.length : Int) by omega), cond_false, hs, List.take_length]; exact ⟨_, rfl, rfl⟩
  · have he := hh.each i hi
    have hsl : s.length ≤ 45 := by rw [hs, List.length_take]; omega
    rw [ref15_Copied.b0, decide_eq_true (show (i : Int) < (h.fValues.length : Int) by omega), cond_true, gd ⟨by omega, by omega⟩, gd (show (rd h.fValues (i : Int)).length ≤ lim by unfold lim; omega), gd (show s.length + [rd h.fValues (i : Int)].length ≤ lim by unfold lim; simp; omega), gd (inR_nat (n := i) (by omega))]
    exact ih _ (by rw [hs, take_rdA hi])
def givenE (t : Types) (p : Pattern) (h : Host) : Int := bif patE t p != 0 then patE t p else (hostV t h).2
theorem given_two {k : Nat} (hk : 1000 ≤ k) {t : Types} {p : Pattern} {h : Host} (ht : FewT t) (hp : FewP p) (hh : FewG h.fGraph) : attribute_given k t p h = some (givenE t p h) ∧ ref21_given k t p h = some (givenE t p h) := by
  obtain ⟨⟨r, e, hr, _⟩, ⟨r', e', hr', _⟩⟩ := host_valid_eq hk ht hh
  unfold attribute_given ref21_given givenE
  rw [valid_eq hk ht hp, ref_valid_eq hk ht hp, Option.bind_some, Option.bind_some, e, e', Option.bind_some, Option.bind_some, hr, hr']
  cases (patE t p != 0) <;> exact ⟨rfl, rfl⟩
theorem Equal_int_self {k : Nat} (l : List Int) (hk : l.length < k) (hl : l.length ≤ 1000000) : slices_Equal_int k l l = some true := by
  unfold slices_Equal_int
  rw [bne_self_eq_false, cond_false]
  refine loop1_eq (fun _ => true) l.length (fun rec => ?_) (fun i hi rec ih => ?_) (k := k) (i := 0) (Nat.zero_le _) (by omega)
  · rw [slices_Equal_int.b0, decide_eq_false (show ¬ (l.length : Int) < (l.length : Int) by omega), cond_false]
  · rw [slices_Equal_int.b0, decide_eq_true (show (i : Int) < (l.length : Int) by omega), cond_true, gd ⟨by omega, by omega⟩, gd ⟨by omega, by omega⟩, bne_self_eq_false, cond_false, gd (inR_nat (n := i) (by omega)), ih]
theorem attrsS_depth {ns : List NodeType} {n : Nat} (w : WfP ns n) : ∀ (d e : Nat) (a : Int), a < (d : Int) → a < (e : Int) → a < (n : Int) → attrsS ns d a = attrsS ns e a
  | 0, e, a, h, _, _ => by rw [attrsS_neg (by omega), attrsS_neg (by omega)]
  | d + 1, 0, a, _, h, _ => by rw [attrsS_neg (by omega), attrsS_neg (by omega)]
  | d + 1, e + 1, a, h1, h2, h3 => by
    rcases Int.lt_or_le a 0 with ha | ha
    · rw [attrsS_neg ha, attrsS_neg ha]
    · have hw := wf_at w ha h3
      rw [attrsS_pos ha, attrsS_pos ha, attrsS_depth w d e _ (by omega) (by omega) (by omega)]
theorem attrs_sub {ns : List NodeType} {n : Nat} (w : WfP ns n) : ∀ (d : Nat) (a b : Int), b ∈ chain ns d a → a < (n : Int) → ∃ r, attrsS ns n a = attrsS ns n b ++ r
  | 0, a, b, h, _ => by simp [chain] at h
  | d + 1, a, b, h, h3 => by
    rcases Int.lt_or_le a 0 with ha | ha
    · rw [chain_neg ha] at h; simp at h
    · have hw := wf_at w ha h3
      rw [chain_pos ha] at h
      rcases List.mem_cons.1 h with rfl | h
      · exact ⟨[], by simp⟩
      · obtain ⟨r, e⟩ := attrs_sub w d _ b h (by omega)
        refine ⟨r ++ (rd ns a).fAttrs, ?_⟩
        rw [attrsS_depth w n (n + 1) a (by omega) (by omega) h3, attrsS_pos ha, e, List.append_assoc]
def Bnd (x : Attr) : Prop := -1000000 ≤ x.fLow ∧ x.fHigh ≤ 1000000
theorem own_bounds {x : Attr} (h : attrOwn x = 0) : Bnd x := by
  unfold attrOwn at h
  cases h0 : (namesS x.fNames != 0) with
  | true => rw [h0, cond_true] at h; rw [h] at h0; cases h0
  | false =>
    rw [h0, cond_false] at h
    by_cases c : (x.fNames.length : Int) > 0
    · have hn : x.fNames.length ≤ 20 := by
        by_cases q : (x.fNames.length : Int) > 20
        · unfold namesS at h0; rw [decide_eq_true q] at h0; cases h0
        · omega
      rw [decide_eq_true c, cond_true] at h
      cases h1 : (x.fLow == 0 && x.fHigh == (x.fNames.length : Int) - 1) with
      | false => rw [h1] at h; cases h
      | true =>
        rw [Bool.and_eq_true, beq_iff_eq, beq_iff_eq] at h1
        exact ⟨by omega, by omega⟩
    · rw [decide_eq_false c, cond_false] at h
      cases h1 : (decide (-1000000 ≤ x.fLow) && (decide (x.fLow ≤ x.fHigh) && decide (x.fHigh ≤ 1000000))) with
      | false => rw [h1] at h; cases h
      | true =>
        rw [Bool.and_eq_true, Bool.and_eq_true, decide_eq_true_eq, decide_eq_true_eq, decide_eq_true_eq] at h1
        exact ⟨h1.1, h1.2.2⟩
theorem valid_node {t : Types} (h : validS t = 0) {j : Nat} (hj : j < t.fNodes.length) : nodeErr t j = 0 := by
  unfold validS at h
  cases h0 : ((t.fNodes.length : Int) == 0) with
  | true => rw [h0] at h; cases h
  | false =>
    cases h1 : decide ((t.fNodes.length : Int) > 12) || decide ((t.fEdges.length : Int) > 20) with
    | true => rw [h0, h1] at h; cases h
    | false =>
      rw [h0, h1, cond_false, cond_false] at h
      unfold valid2S at h
      cases h2 : (scan (nodeErr t) 0 t.fNodes.length != 0) with
      | true => rw [h2, cond_true] at h; rw [h] at h2; cases h2
      | false => exact scan_zero (by simpa using h2) j (Nat.zero_le _) hj
theorem node_scan {t : Types} {i : Nat} (h : nodeErr t i = 0) : scan (attrErr (attrsS t.fNodes 100 (i : Int))) ((attrsS t.fNodes 100 (i : Int)).length - (rd t.fNodes (i : Int)).fAttrs.length) (attrsS t.fNodes 100 (i : Int)).length = 0 := by
  unfold nodeErr at h
  cases h1 : isNameB (rd t.fNodes (i : Int)).fName with
  | false => rw [h1] at h; cases h
  | true =>
    cases h2 : anyN (fun j => (rd t.fNodes (j : Int)).fName == (rd t.fNodes (i : Int)).fName) 0 i with
    | true => rw [h1, h2] at h; cases h
    | false =>
      cases h3 : decide ((rd t.fNodes (i : Int)).fParent < -1) || decide ((rd t.fNodes (i : Int)).fParent ≥ (i : Int)) with
      | true => rw [h1, h2, h3] at h; cases h
      | false =>
        cases h4 : decide (((rd t.fNodes (i : Int)).fAttrs.length : Int) > 4) with
        | true => rw [h1, h2, h3, h4] at h; cases h
        | false =>
          cases h5 : decide (((attrsS t.fNodes 100 (i : Int)).length : Int) > 8) with
          | true => rw [h1, h2, h3, h4, h5] at h; cases h
          | false => rw [h1, h2, h3, h4, h5] at h; exact h
theorem rd_append {A B : List Attr} {q : Nat} (hq : q < B.length) : rd (A ++ B) ((A.length + q : Nat) : Int) = B[q] := by
  unfold rd
  rw [Int.toNat_natCast, List.getD_eq_getElem?_getD, List.getElem?_append_right (by omega), Nat.add_sub_cancel_left, List.getElem?_eq_getElem hq]; rfl
theorem node_bounds {t : Types} (h : validS t = 0) : ∀ n ∈ t.fNodes, ∀ x ∈ n.fAttrs, Bnd x := fun n hn x hx => by
  obtain ⟨i, hi, rfl⟩ := List.mem_iff_getElem.1 hn
  obtain ⟨w, h12, _⟩ := valid_wf h
  have er : rd t.fNodes (i : Int) = t.fNodes[i] := by simp [rd, List.getD, List.getElem?_eq_getElem hi]
  obtain ⟨q, hq, rfl⟩ := List.mem_iff_getElem.1 hx
  have hs := node_scan (valid_node h hi)
  rw [er] at hs
  have ea : attrsS t.fNodes 100 (i : Int) = attrsS t.fNodes 99 (rd t.fNodes (i : Int)).fParent ++ t.fNodes[i].fAttrs := by rw [attrsS_pos (by omega), er]
  have hz := scan_zero hs ((attrsS t.fNodes 100 (i : Int)).length - t.fNodes[i].fAttrs.length + q) (by omega) (by rw [ea, List.length_append]; omega)
  have eq : rd (attrsS t.fNodes 100 (i : Int)) (((attrsS t.fNodes 100 (i : Int)).length - t.fNodes[i].fAttrs.length + q : Nat) : Int) = t.fNodes[i].fAttrs[q] := by
    rw [ea, List.length_append]
    have : (attrsS t.fNodes 99 (rd t.fNodes (i : Int)).fParent).length + t.fNodes[i].fAttrs.length - t.fNodes[i].fAttrs.length + q = (attrsS t.fNodes 99 (rd t.fNodes (i : Int)).fParent).length + q := by omega
    rw [this]
    exact rd_append hq
  unfold attrErr at hz
  rw [eq] at hz
  cases h1 : isNameB t.fNodes[i].fAttrs[q].fName with
  | false => rw [h1] at hz; cases hz
  | true =>
    rw [h1, Bool.not_true, cond_false] at hz
    cases h2 : anyN (fun j => (rd (attrsS t.fNodes 100 (i : Int)) (j : Int)).fName == t.fNodes[i].fAttrs[q].fName) 0 ((attrsS t.fNodes 100 (i : Int)).length - t.fNodes[i].fAttrs.length + q) with
    | true => rw [h2] at hz; cases hz
    | false => rw [h2] at hz; exact own_bounds hz
theorem attrs_bounds {t : Types} (h : validS t = 0) {a : Int} (ha : a < (t.fNodes.length : Int)) : ∀ x ∈ attrsS t.fNodes t.fNodes.length a, Bnd x :=
  attrsS_all (valid_wf h).1 (node_bounds h) _ _ ha
theorem firstF_ok {e : Nat → Int} {z : Int × Int} : ∀ (d i : Nat), (firstF e z i d).2 = 0 → ∀ j, i ≤ j → j < i + d → e j = 0
  | 0, i, _ => fun j h1 h2 => by omega
  | d + 1, i, h => fun j h1 h2 => by
    unfold firstF at h
    cases c : (e i != 0) with
    | true =>
      rw [c, cond_true] at h
      have h' : e i = 0 := h
      rw [h'] at c; cases c
    | false =>
      rw [c, cond_false] at h
      rcases Nat.eq_or_lt_of_le h1 with q | q
      · rw [← q]; simpa using c
      · exact firstF_ok d (i + 1) h j q (by omega)
structure HostOk (t : Types) (h : Host) : Prop where
  val : validS t = 0
  graph : GoodG h.fGraph
  len : h.fValues.length = h.fGraph.fNodes.length
  node : ∀ j, j < h.fGraph.fNodes.length → nodeV t (rd h.fGraph.fNodes (j : Int)) (rd h.fValues (j : Int)) = 0
theorem host_ok {t : Types} {h : Host} (e : (hostV t h).2 = 0) : HostOk t h := by
  unfold hostV at e
  cases h0 : (validS t != 0) with
  | true => rw [h0, cond_true] at e; have e' : validS t = 0 := e; rw [e'] at h0; cases h0
  | false =>
    cases h1 : (graphErr h.fGraph != 0) with
    | true => rw [h0, h1, cond_false, cond_true] at e; have e' : graphErr h.fGraph = 0 := e; rw [e'] at h1; cases h1
    | false =>
      cases h2 : ((h.fValues.length : Int) != (h.fGraph.fNodes.length : Int)) with
      | true => rw [h0, h1, h2] at e; cases e
      | false =>
        rw [h0, h1, h2, cond_false, cond_false, cond_false] at e
        have hl : (h.fValues.length : Int) = (h.fGraph.fNodes.length : Int) := by simpa using h2
        exact ⟨by simpa using h0, graphErr_good (by simpa using h1), by omega, fun j hj => firstF_ok _ _ e j (Nat.zero_le _) (by omega)⟩
structure PatOk (t : Types) (p : Pattern) : Prop where
  val : validS t = 0
  graph : GoodG p.fGraph
  typed : typedB t p.fGraph = true
  v0 : 0 ≤ p.fVars
  v1 : p.fVars ≤ 12
  slots : p.fSlots.length ≤ 10
  tests : p.fTests.length ≤ 10
  slot : ∀ j, j < p.fSlots.length → slotBad t p j = false
  test : ∀ j, j < p.fTests.length → testE p.fVars (rd p.fTests (j : Int)) = 0
theorem pat_ok {t : Types} {p : Pattern} (e : patE t p = 0) : PatOk t p := by
  unfold patE at e
  cases h0 : (validS t != 0) with
  | true => rw [h0, cond_true] at e; rw [e] at h0; cases h0
  | false =>
    cases h1 : (graphErr p.fGraph != 0) with
    | true => rw [h0, h1, cond_false, cond_true] at e; rw [e] at h1; cases h1
    | false =>
      cases h2 : typedB t p.fGraph with
      | false => rw [h0, h1, h2] at e; cases e
      | true =>
        cases h3 : (decide (p.fVars < 0) || decide (p.fVars > 12)) with
        | true => rw [h0, h1, h2, h3] at e; cases e
        | false =>
          cases h4 : (decide ((p.fSlots.length : Int) > 10) || decide ((p.fTests.length : Int) > 10)) with
          | true => rw [h0, h1, h2, h3, h4] at e; cases e
          | false =>
            rw [h0, h1, h2, h3, h4] at e
            have e : slotsE t p 0 = 0 := e
            rw [Bool.or_eq_false_iff, decide_eq_false_iff_not, decide_eq_false_iff_not] at h3 h4
            unfold slotsE at e
            cases h5 : anyN (slotBad t p) 0 p.fSlots.length with
            | true => rw [h5] at e; cases e
            | false =>
              rw [h5, cond_false] at e
              unfold restE at e
              cases h6 : (testsE p.fVars p.fTests != 0) with
              | true => rw [h6, cond_true] at e; rw [e] at h6; cases h6
              | false =>
                have h7 : testsE p.fVars p.fTests = 0 := by simpa using h6
                unfold testsE at h7
                rw [decide_eq_false h3.1, decide_eq_false h3.2, Bool.or_false, cond_false, decide_eq_false (show ¬ (p.fTests.length : Int) > 40 by omega), cond_false] at h7
                exact ⟨by simpa using h0, graphErr_good (by simpa using h1), h2, by omega, by omega, by omega, by omega, fun j hj => anyN_false h5 j (Nat.zero_le _) hj, fun j hj => scan_zero h7 j (Nat.zero_le _) hj⟩
theorem termB_sm {n : Int} {x : Term} (h : termB n x = true) : Sm x.fAdd := by
  unfold termB at h
  simp only [Bool.and_eq_true, decide_eq_true_eq] at h
  exact ⟨by omega, by omega⟩
theorem test_sm {n : Int} {x : Test} (h : testE n x = 0) : Sm x.fLeft.fAdd ∧ Sm x.fRight.fAdd := by
  unfold testE at h
  cases h0 : (x.fKind != 1) && (x.fKind != 2) with
  | true => rw [h0] at h; cases h
  | false =>
    cases h1 : (termB n x.fLeft && termB n x.fRight) with
    | false => rw [h0, h1] at h; cases h
    | true => rw [Bool.and_eq_true] at h1; exact ⟨termB_sm h1.1, termB_sm h1.2⟩
theorem node_val {t : Types} {kind : Int} {vs : List Int} (h : nodeV t kind vs = 0) : kind < (t.fNodes.length : Int) ∧ vs.length = (attrsS t.fNodes t.fNodes.length kind).length ∧ ∀ j, j < vs.length → outB (attrsS t.fNodes t.fNodes.length kind) vs j = false := by
  unfold nodeV at h
  by_cases c : kind ≥ (t.fNodes.length : Int)
  · rw [decide_eq_true c] at h; cases h
  · rw [decide_eq_false c, cond_false] at h
    cases h1 : (rd t.fNodes kind).fAbstract with
    | true => rw [h1] at h; cases h
    | false =>
      cases h2 : ((vs.length : Int) != ((attrsS t.fNodes t.fNodes.length kind).length : Int)) with
      | true => rw [h1, h2] at h; cases h
      | false =>
        have hl : (vs.length : Int) = ((attrsS t.fNodes t.fNodes.length kind).length : Int) := by simpa using h2
        cases h3 : anyN (outB (attrsS t.fNodes t.fNodes.length kind) vs) 0 (attrsS t.fNodes t.fNodes.length kind).length with
        | true => rw [h1, h2, h3] at h; cases h
        | false => exact ⟨by omega, by omega, fun j hj => anyN_false h3 j (Nat.zero_le _) (by omega)⟩
theorem slot_ok {t : Types} {p : Pattern} {h : Host} {m : Morphism} (P : PatOk t p) (H : HostOk t h) (l1 : m.fNodes.length = p.fGraph.fNodes.length) (hn : ∀ i, i < m.fNodes.length → nodeM t p.fGraph h.fGraph m i = 0) {i : Nat} (hi : i < p.fSlots.length) : SlotOk p h m i := by
  obtain ⟨w, h12, _⟩ := valid_wf P.val
  have hb := P.slot i hi
  unfold slotBad at hb
  rw [Bool.or_eq_false_iff, Bool.or_eq_false_iff, Bool.not_eq_false', Bool.not_eq_false', Bool.not_eq_false', Bool.and_eq_true, Bool.and_eq_true, decide_eq_true_eq, decide_eq_true_eq, decide_eq_true_eq, decide_eq_true_eq] at hb
  obtain ⟨hA, ⟨hv0, hv1⟩, ha0, ha1⟩ := hb
  by_cases c : 0 ≤ (rd p.fSlots (i : Int)).fNode ∧ (rd p.fSlots (i : Int)).fNode < (p.fGraph.fNodes.length : Int)
  · by_cases d : 0 ≤ (rd p.fSlots (i : Int)).fAttr ∧ (rd p.fSlots (i : Int)).fAttr < ((attrsS t.fNodes t.fNodes.length (rd p.fGraph.fNodes (rd p.fSlots (i : Int)).fNode)).length : Int)
    · have hm := hn (rd p.fSlots (i : Int)).fNode.toNat (by omega)
      have hin := nodeM_in hm
      unfold nodeM at hm
      rw [Int.toNat_of_nonneg c.1] at hm hin
      generalize hx : rd m.fNodes (rd p.fSlots (i : Int)).fNode = x at *
      rw [decide_eq_false (show ¬ x < 0 by omega), decide_eq_false (show ¬ x ≥ (h.fGraph.fNodes.length : Int) by omega), Bool.or_false, cond_false] at hm
      cases hs : isB t.fNodes (rd h.fGraph.fNodes x) (rd p.fGraph.fNodes (rd p.fSlots (i : Int)).fNode) with
      | false => rw [hs] at hm; cases hm
      | true =>
        have hnode := H.node x.toNat (by omega)
        rw [Int.toNat_of_nonneg hin.1] at hnode
        obtain ⟨k1, k2, k3⟩ := node_val hnode
        unfold isB at hs
        rw [decide_eq_true_eq] at hs
        obtain ⟨r, er⟩ := attrs_sub w 100 _ _ hs k1
        have hlen : (rd p.fSlots (i : Int)).fAttr < ((rd h.fValues x).length : Int) := by
          rw [k2, er, List.length_append]; omega
        have ho := k3 (rd p.fSlots (i : Int)).fAttr.toNat (by omega)
        unfold outB at ho
        rw [Int.toNat_of_nonneg d.1, Bool.or_eq_false_iff, decide_eq_false_iff_not, decide_eq_false_iff_not] at ho
        have hbd := attrs_bounds P.val k1 _ (rd_mem (l := attrsS t.fNodes t.fNodes.length (rd h.fGraph.fNodes x)) (x := (rd p.fSlots (i : Int)).fAttr) d.1 (by rw [← k2]; omega))
        have hb1 := hbd.1; have hb2 := hbd.2
        have hlh := H.len
        exact ⟨c.1, by omega, by rw [hx]; exact hin.1, by rw [hx, hlh]; exact hin.2, d.1, by rw [hx]; exact hlen, hv1, ⟨ha0, ha1⟩, by rw [hx]; exact ⟨by omega, by omega⟩⟩
    · rw [attrP_no c d] at hA; cases hA
  · rw [attrP_out c] at hA; cases hA
theorem solve_ok {t : Types} {p : Pattern} {h : Host} {m : Morphism} (P : PatOk t p) (H : HostOk t h) (hm : matchS t p.fGraph h.fGraph m = 0) : SolveOk p h m := by
  obtain ⟨l1, _, hn, _⟩ := matchS_zero hm
  have h1 := P.slots; have h2 := P.tests
  exact ⟨P.v0, P.v1, by omega, by omega, fun i hi => slot_ok P H l1 hn hi, fun i hi => (test_sm (P.test i hi)).1, fun i hi => (test_sm (P.test i hi)).2⟩
theorem given_ok {t : Types} {p : Pattern} {h : Host} (e : givenE t p h = 0) : PatOk t p ∧ HostOk t h := by
  unfold givenE at e
  cases h0 : (patE t p != 0) with
  | true => rw [h0, cond_true] at e; rw [e] at h0; cases h0
  | false => rw [h0, cond_false] at e; exact ⟨pat_ok (by simpa using h0), host_ok e⟩
def allR (t : Types) (p g : Graph) (inj : Bool) : List Morphism × Int :=
  bif givenS t p g != 0 then ([], givenS t p g) else if (fullL t p g inj).length > 5000 then ([], 3) else (fullL t p g inj, 0)
theorem All_two {k : Nat} (hk : 6000 ≤ k) {t : Types} {p g : Graph} (hl : Small t p g) (inj : Bool) : search_All k t p g inj = some (allR t p g inj) ∧ ref17_All k t p g inj = some (allR t p g inj) := by
  unfold search_All ref17_All allR
  rw [search_valid_eq (by omega) hl, ref17_given_eq (by omega) hl, Option.bind_some, Option.bind_some]
  cases hz : (givenS t p g != 0) with
  | true => exact ⟨rfl, rfl⟩
  | false =>
    have hz' : givenS t p g = 0 := by simpa using hz
    have f := givenS_fine hz'
    have b1 := f.gp.nodes; have b2 := f.gp.edges
    obtain ⟨o, eo, ho⟩ := ref17_open_out (k := k) (by omega) f.gp
    have hf := found_eq (k := k) (by omega) hl.t f (part := OMorphism.mk none none) (pn := fun _ => -1) (pe := fun _ => -1) (inj := inj) (N := 5001) (by omega) (fun i hi => ⟨rfl, fun l h => by cases h⟩) (fun i hi => ⟨rfl, fun l h => by cases h⟩)
    have hr := run_eq (k := k) (by omega) f (part := o) (pn := fun _ => -1) (pe := fun _ => -1) (inj := inj) (N := 5001) (by omega) (by omega) ho.ln ho.le ho.n ho.e
    rw [allL_full] at hf hr
    have hf' : search_found k t p g (OMorphism.mk none none) inj 5001 = _ := hf
    have hr' : ref17_run k t p g o inj 5000 = _ := hr
    rw [cond_false, cond_false, search_all, hf', Option.bind_some, eo, Option.bind_some, hr', Option.bind_some]
    by_cases h : (fullL t p g inj).length > 5000
    · rw [cond_false, if_pos h, decide_eq_true (by rw [List.length_take]; omega)]; exact ⟨rfl, rfl⟩
    · rw [cond_false, if_neg h, decide_eq_false (by rw [List.length_take]; omega), List.take_of_length_le (by omega)]; exact ⟨rfl, rfl⟩
def sv (k : Nat) (p : Pattern) (h : Host) (m : Morphism) : List Int × Int := (attribute_solve k p h m).getD ([], 0)
theorem sv_eq {k : Nat} (hk : 1000 ≤ k) {p : Pattern} {h : Host} {m : Morphism} (ok : SolveOk p h m) : attribute_solve k p h m = some (sv k p h m) ∧ ref21_Values k p h m = some (sv k p h m) ∧ (sv k p h m).1.length ≤ 12 := by
  obtain ⟨r, e1, e2, hr⟩ := solve_two hk ok
  have e : sv k p h m = r := by unfold sv; rw [e1]; rfl
  rw [e]; exact ⟨e1, e2, hr⟩
def pick (k : Nat) (p : Pattern) (h : Host) (m : Morphism) : List Match := bif (sv k p h m).2 == 0 then [Match.mk m (sv k p h m).1] else []
def picks (k : Nat) (p : Pattern) (h : Host) (l : List Morphism) : List Match := l.flatMap (pick k p h)
theorem pick_len {k : Nat} {p : Pattern} {h : Host} {m : Morphism} : (pick k p h m).length ≤ 1 := by
  unfold pick; cases ((sv k p h m).2 == 0) <;> simp
theorem picks_len {k : Nat} {p : Pattern} {h : Host} : ∀ {l : List Morphism}, (picks k p h l).length ≤ l.length
  | [] => by simp [picks]
  | m :: l => by
    have h1 := picks_len (k := k) (p := p) (h := h) (l := l)
    have h2 := pick_len (k := k) (p := p) (h := h) (m := m)
    unfold picks at h1 ⊢
    rw [List.flatMap_cons, List.length_append, List.length_cons]; omega
theorem picks_snoc {k : Nat} {p : Pattern} {h : Host} {l : List Morphism} {i : Nat} (hi : i < l.length) : picks k p h (l.take (i + 1)) = picks k p h (l.take i) ++ pick k p h (rd l (i : Int)) := by
  have e : rd l (i : Int) = l[i] := by simp [rd, List.getD, List.getElem?_eq_getElem hi]
  rw [List.take_succ_eq_append_getElem hi, e]
  unfold picks; rw [List.flatMap_append, List.flatMap_singleton]
theorem match_loops {k : Nat} (hk : 6000 ≤ k) {p : Pattern} {h : Host} {L : List Morphism} (hL : L.length ≤ 5000) (ok : ∀ m ∈ L, SolveOk p h m) (x y : Int) :
    loop2 k (attribute_Matches.b0 k p h (L, x)) [] 0 = some (picks k p h L, 0) ∧ loop2 k (ref21_Matches.b0 k p h (L, y)) [] 0 = some (picks k p h L, 0) := by
  have lm : 5000 ≤ lim := by decide
  have fin : picks k p h (L.take L.length) = picks k p h L := by rw [List.take_length]
  constructor
  · refine (loop2_out (b := attribute_Matches.b0 k p h (L, x)) (I := fun s i => s = picks k p h (L.take i)) (P := fun _ _ r => r = (picks k p h L, 0)) L.length (fun s hs rec => ?_) (fun s i hi hs rec ih => ?_) k 0 [] (Nat.zero_le _) (by omega) rfl).eq
    · subst hs
      rw [attribute_Matches.b0, decide_eq_false (show ¬ (L.length : Int) < (L.length : Int) by omega), cond_false, fin]
      exact Out.some rfl
    · subst hs
      have hm := ok _ (rd_mem (l := L) (x := (i : Int)) (by omega) (by omega))
      obtain ⟨e1, -, -⟩ := sv_eq (k := k) (by omega) hm
      have gix : ∀ z : Int, (0 : Int) ≤ (i : Int) ∧ (i : Int) < (((L, z) : List Morphism × Int).1.length : Int) := fun z => ⟨by omega, by show (i : Int) < (L.length : Int); omega⟩
      have hl := picks_len (k := k) (p := p) (h := h) (l := L.take i)
      rw [List.length_take] at hl
      rw [attribute_Matches.b0, decide_eq_true (show (i : Int) < (L.length : Int) by omega), cond_true, gd (gix x), e1, Option.bind_some]
      have hs := picks_snoc (k := k) (p := p) (h := h) hi
      unfold pick at hs
      cases c : ((sv k p h (rd L (i : Int))).2 == 0) with
      | true =>
        rw [c, cond_true] at hs
        rw [cond_true, gd (by rw [List.length_singleton]; omega), gd (inR_nat (n := i) (by omega))]
        exact ih _ hs.symm
      | false =>
        rw [c, cond_false, List.append_nil] at hs
        rw [cond_false, gd (inR_nat (n := i) (by omega))]
        exact ih _ hs.symm
  · refine (loop2_out (b := ref21_Matches.b0 k p h (L, y)) (I := fun s i => s = picks k p h (L.take i)) (P := fun _ _ r => r = (picks k p h L, 0)) L.length (fun s hs rec => ?_) (fun s i hi hs rec ih => ?_) k 0 [] (Nat.zero_le _) (by omega) rfl).eq
    · subst hs
      rw [ref21_Matches.b0, decide_eq_false (show ¬ (L.length : Int) < (L.length : Int) by omega), cond_false, fin]
      exact Out.some rfl
    · subst hs
      have hm := ok _ (rd_mem (l := L) (x := (i : Int)) (by omega) (by omega))
      obtain ⟨-, e1, -⟩ := sv_eq (k := k) (by omega) hm
      have gix : ∀ z : Int, (0 : Int) ≤ (i : Int) ∧ (i : Int) < (((L, z) : List Morphism × Int).1.length : Int) := fun z => ⟨by omega, by show (i : Int) < (L.length : Int); omega⟩
      have hl := picks_len (k := k) (p := p) (h := h) (l := L.take i)
      rw [List.length_take] at hl
      rw [ref21_Matches.b0, decide_eq_true (show (i : Int) < (L.length : Int) by omega), cond_true, gd (gix y), e1, Option.bind_some]
      have hs := picks_snoc (k := k) (p := p) (h := h) hi
      unfold pick at hs
      cases c : ((sv k p h (rd L (i : Int))).2 == 0) with
      | true =>
        rw [c, cond_true] at hs
        rw [cond_true, gd (gix y), gd (by rw [List.length_singleton]; omega), gd (inR_nat (n := i) (by omega))]
        exact ih _ hs.symm
      | false =>
        rw [c, cond_false, List.append_nil] at hs
        rw [cond_false, gd (inR_nat (n := i) (by omega))]
        exact ih _ hs.symm
theorem check_match2 {t : Types} {p g : Graph} {m : Morphism} {inj : Bool} (h : checkS t p g m inj = 0) : matchS t p g m = 0 ∧ checkS t p g m false = 0 := by
  unfold checkS at h ⊢
  cases hz : (givenS t p g != 0) with
  | true => rw [hz, cond_true] at h; rw [h] at hz; cases hz
  | false =>
    rw [hz, cond_false] at h
    rw [cond_false]
    unfold matchI at h ⊢
    cases hy : (matchS t p g m != 0) with
    | true => rw [hy, cond_true] at h; rw [h] at hy; cases hy
    | false =>
      refine ⟨by simpa using hy, ?_⟩
      rw [cond_false]; rfl
theorem SameMatches_eq {k : Nat} (hk : 6000 ≤ k) {l : List Match} (hl : l.length ≤ 5000) (h : ∀ m ∈ l, m.fMorphism.fNodes.length ≤ 100 ∧ m.fMorphism.fEdges.length ≤ 100 ∧ m.fVars.length ≤ 100) : ref21_SameMatches k l l = some true := by
  unfold ref21_SameMatches
  rw [bne_self_eq_false, cond_false]
  refine loop1_eq (fun _ => true) l.length (fun rec => ?_) (fun i hi rec ih => ?_) (Nat.zero_le _) (by omega)
  · rw [ref21_SameMatches.b0, decide_eq_false (show ¬ (l.length : Int) < (l.length : Int) by omega), cond_false]
  · have hm := h _ (rd_mem (l := l) (x := (i : Int)) (by omega) (by omega))
    rw [ref21_SameMatches.b0, decide_eq_true (show (i : Int) < (l.length : Int) by omega), cond_true, gd (by omega), gd (by omega)]
    unfold ref21_SameMatch jn; dsimp only
    rw [SameInts_eq (by omega) (by omega) rfl (fun _ _ => rfl), Option.bind_some, cond_true, SameInts_eq (by omega) (by omega) rfl (fun _ _ => rfl), Option.bind_some, cond_true, SameInts_eq (by omega) (by omega) rfl (fun _ _ => rfl), Option.bind_some, Option.bind_some, Bool.not_true, cond_false, gd (inR_nat (n := i) (by omega)), ih]
theorem Matches_two {k : Nat} (hk : 6000 ≤ k) {t : Types} {p : Pattern} {h : Host} (inj : Bool) (ht : FewT t) (hp : FewP p) (hh : FewG h.fGraph) :
    ∃ r : List Match × Int, attribute_Matches k t p h inj = some r ∧ ref21_Matches k t p h inj = some r ∧ r.1.length ≤ 5000 ∧
      ∀ m ∈ r.1, m.fMorphism.fNodes.length ≤ 100 ∧ m.fMorphism.fEdges.length ≤ 100 ∧ m.fVars.length ≤ 100 ∧ attribute_Solve k t p h m.fMorphism = some (m.fVars, 0) := by
  obtain ⟨g1, g2⟩ := given_two (k := k) (by omega) (p := p) ht hp hh
  have sm : Small t p.fGraph h.fGraph := ⟨ht, hp.graph, hh⟩
  obtain ⟨a1, a2⟩ := All_two hk sm inj
  unfold attribute_Matches ref21_Matches
  rw [g1, g2, Option.bind_some, Option.bind_some]
  cases c : (givenE t p h != 0) with
  | true => exact ⟨_, rfl, rfl, Nat.zero_le _, fun m hm => by cases hm⟩
  | false =>
    obtain ⟨P, H⟩ := given_ok (show givenE t p h = 0 by simpa using c)
    rw [cond_false, cond_false, a1, a2, Option.bind_some, Option.bind_some]
    cases d : ((allR t p.fGraph h.fGraph inj).2 != 0) with
    | true => exact ⟨_, rfl, rfl, Nat.zero_le _, fun m hm => by cases hm⟩
    | false =>
      unfold allR at d ⊢
      cases hz : (givenS t p.fGraph h.fGraph != 0) with
      | true => rw [hz, cond_true] at d; have d' : (givenS t p.fGraph h.fGraph != 0) = false := d; rw [d'] at hz; cases hz
      | false =>
        rw [hz, cond_false] at d
        by_cases hL : (fullL t p.fGraph h.fGraph inj).length > 5000
        · rw [if_pos hL] at d; cases d
        · rw [cond_false, cond_false, cond_false, if_neg hL]
          have hz' : givenS t p.fGraph h.fGraph = 0 := by simpa using hz
          have hchk : ∀ m ∈ fullL t p.fGraph h.fGraph inj, matchS t p.fGraph h.fGraph m = 0 ∧ checkS t p.fGraph h.fGraph m false = 0 := fun m hm => check_match2 (full_check hz' hm)
          have hlen : ∀ m ∈ fullL t p.fGraph h.fGraph inj, m.fNodes.length = p.fGraph.fNodes.length ∧ m.fEdges.length = p.fGraph.fEdges.length := fun m hm => by
            have := nodesL_len _ _ m hm
            simpa [pbA] using this
          have gn := P.graph.nodes; have ge := P.graph.edges
          have ok : ∀ m ∈ fullL t p.fGraph h.fGraph inj, SolveOk p h m := fun m hm => solve_ok P H (hchk m hm).1
          generalize fullL t p.fGraph h.fGraph inj = L at *
          obtain ⟨e1, e2⟩ := match_loops hk (by omega) ok 0 0
          refine ⟨_, e1, e2, ?_, fun m hm => ?_⟩
          · have := picks_len (k := k) (p := p) (h := h) (l := L); show (picks k p h L).length ≤ 5000; omega
          · have hm' : m ∈ L.flatMap (pick k p h) := hm
            obtain ⟨x, hx, hm2⟩ := List.mem_flatMap.1 hm'
            unfold pick at hm2
            cases hc : ((sv k p h x).2 == 0) with
            | false => rw [hc] at hm2; cases hm2
            | true =>
              rw [hc, cond_true, List.mem_singleton] at hm2
              subst hm2
              obtain ⟨s1, -, s3⟩ := sv_eq (k := k) (by omega) (ok x hx)
              have hl := hlen x hx
              have hc' : (sv k p h x).2 = 0 := by simpa using hc
              have cc := (hchk x hx).2
              refine ⟨by show x.fNodes.length ≤ 100; omega, by show x.fEdges.length ≤ 100; omega, by show (sv k p h x).1.length ≤ 100; omega, ?_⟩
              show attribute_Solve k t p h x = some ((sv k p h x).1, 0)
              unfold attribute_Solve
              rw [g1, Option.bind_some, c, cond_false, search_Check_eq (by omega) sm x false (by omega) (by omega), Option.bind_some, cc, bne_self_eq_false, cond_false, s1, Option.bind_some, hc']
theorem law_matches {k : Nat} (hk : 6000 ≤ k) (aw : law21_awake k = some true) (c : Case) (inj : Bool) (hA : ∀ n ∈ c.fT.fNodes, n.fAttrs.length ≤ 140737488351232) : law21_AttributeMatches k c inj = some true := by
  unfold law21_AttributeMatches jn; dsimp only
  rw [aw, Option.bind_some, Bool.not_true, cond_false, Option.bind_some]
  obtain ⟨b, e, hb⟩ := light_out (k := k) (by omega) c.fP c.fH hA
  rw [e, Option.bind_some]
  cases b with
  | false => rfl
  | true =>
    have L := hb rfl
    obtain ⟨r, e1, e2, hr, hm⟩ := Matches_two hk inj L.light.small.t L.pat L.host.graph
    rw [Bool.not_true, cond_false, copied21 L.pat, Option.bind_some, copied15 (by omega) L.host, Option.bind_some, e1, e2, Option.bind_some, Option.bind_some, bne_self_eq_false, cond_false, SameMatches_eq hk hr (fun m h => ⟨(hm m h).1, (hm m h).2.1, (hm m h).2.2.1⟩), Option.bind_some, Bool.not_true, cond_false]
    refine loop1_eq (fun _ => true) r.1.length (fun rec => ?_) (fun i hi rec ih => ?_) (Nat.zero_le _) (by omega)
    · rw [law21_AttributeMatches.b0, decide_eq_false (show ¬ (r.1.length : Int) < (r.1.length : Int) by omega), cond_false]
    · obtain ⟨-, -, h3, h4⟩ := hm _ (rd_mem (l := r.1) (x := (i : Int)) (by omega) (by omega))
      rw [law21_AttributeMatches.b0, decide_eq_true (show (i : Int) < (r.1.length : Int) by omega), cond_true, gd (by omega), h4, Option.bind_some]
      unfold jn; dsimp only
      rw [bne_self_eq_false, cond_false, Equal_int_self _ (by omega) (by omega), Option.bind_some, Bool.not_true, cond_false, gd (inR_nat (n := i) (by omega)), ih]
end Go.Proofs.YtcgdfjpeboiioaaGreat
