/- The words of this seat's proofs: assertions on values in a world, owned memory, the state of a frame, rules of control. -/
import Derived.WalkKit
namespace Go.Abs
open Go Go.RowKit

/-- Blocks that a reading must not rest on: those that may still be written. -/
abbrev Bad := Nat → Prop

structure Ext (w : World) (bad : Bad) (w' : World) (bad' : Bad) : Prop where
  size : w.heap.size ≤ w'.heap.size
  keep : ∀ b, b < w.heap.size → ¬ bad b → w'.heap[b]? = w.heap[b]? ∧ ¬ bad' b

theorem Ext.refl (w : World) (bad : Bad) : Ext w bad w bad := ⟨Nat.le_refl _, fun _ _ h => ⟨rfl, h⟩⟩
theorem Ext.trans {w w1 w2 : World} {b b1 b2 : Bad} (h : Ext w b w1 b1) (k : Ext w1 b1 w2 b2) : Ext w b w2 b2 :=
  ⟨Nat.le_trans h.size k.size, fun i hi hb => by
    obtain ⟨e1, n1⟩ := h.keep i hi hb
    obtain ⟨e2, n2⟩ := k.keep i (Nat.lt_of_lt_of_le hi h.size) n1
    exact ⟨e2.trans e1, n2⟩⟩

/-- An assertion on a value: it stays true while what is not bad stays as it is. 'cell': the value fills one cell. -/
structure Asn where
  P : World → Bad → Value → Prop
  ext : ∀ {w bad w' bad' v}, Ext w bad w' bad' → P w bad v → P w' bad' v
  cell : Bool
  one : cell = true → ∀ {w bad v}, P w bad v → v.oneCell' = true

def All2 (w : World) (bad : Bad) : List Asn → List Value → Prop
  | [], [] => True
  | A :: l, v :: vs => A.P w bad v ∧ All2 w bad l vs
  | _, _ => False

theorem All2.ext {w bad w' bad'} (h : Ext w bad w' bad') : ∀ {l : List Asn} {vs : List Value}, All2 w bad l vs → All2 w' bad' l vs
  | [], [], _ => trivial
  | A :: _, _ :: _, k => ⟨A.ext h k.1, All2.ext h k.2⟩
  | [], _ :: _, k => k.elim
  | _ :: _, [], k => k.elim
theorem All2.length {w bad} : ∀ {l : List Asn} {vs : List Value}, All2 w bad l vs → vs.length = l.length
  | [], [], _ => rfl
  | _ :: _, _ :: _, k => by simp [All2.length k.2]
  | [], _ :: _, k => k.elim
  | _ :: _, [], k => k.elim
theorem All2.get {w bad} : ∀ {l : List Asn} {vs : List Value} {i : Nat} {A : Asn}, All2 w bad l vs → l[i]? = some A → ∃ v, vs[i]? = some v ∧ A.P w bad v
  | [], [], _, _, _, h => by simp at h
  | B :: l, v :: vs, 0, A, k, h => by simp at h; subst h; exact ⟨v, rfl, k.1⟩
  | B :: l, v :: vs, i + 1, A, k, h => by simp at h; simpa using All2.get k.2 h
  | [], _ :: _, _, _, k, _ => k.elim
  | _ :: _, [], _, _, k, _ => k.elim
theorem All2.drop {w bad} : ∀ {l : List Asn} {vs : List Value} (n : Nat), All2 w bad l vs → All2 w bad (l.drop n) (vs.drop n)
  | _, _, 0, k => by simpa using k
  | [], [], _ + 1, _ => trivial
  | _ :: _, _ :: _, n + 1, k => by simpa using All2.drop n k.2
  | [], _ :: _, _ + 1, k => k.elim
  | _ :: _, [], _ + 1, k => k.elim
theorem All2.take {w bad} : ∀ {l : List Asn} {vs : List Value} (n : Nat), All2 w bad l vs → All2 w bad (l.take n) (vs.take n)
  | [], [], 0, _ => trivial
  | _ :: _, _ :: _, 0, _ => trivial
  | [], [], _ + 1, _ => trivial
  | _ :: _, _ :: _, n + 1, k => by simp only [List.take_succ_cons]; exact ⟨k.1, All2.take n k.2⟩
  | [], _ :: _, _, k => k.elim
  | _ :: _, [], _, k => k.elim
theorem All2.append {w bad} : ∀ {l : List Asn} {vs : List Value} {l' vs'}, All2 w bad l vs → All2 w bad l' vs' → All2 w bad (l ++ l') (vs ++ vs')
  | [], [], _, _, _, h => h
  | _ :: _, _ :: _, _, _, k, h => ⟨k.1, All2.append k.2 h⟩
  | [], _ :: _, _, _, k, _ => k.elim
  | _ :: _, [], _, _, k, _ => k.elim
theorem All2.one {w bad} : ∀ {l : List Asn} {vs : List Value}, l.all (·.cell) = true → All2 w bad l vs → ∀ v ∈ vs, v.oneCell' = true
  | [], [], _, _, v, hv => by simp at hv
  | A :: l, u :: vs, hc, k, v, hv => by
    simp only [List.all_cons, Bool.and_eq_true] at hc
    rcases List.mem_cons.1 hv with rfl | hv
    · exact A.one hc.1 k.1
    · exact All2.one hc.2 k.2 v hv
  | [], _ :: _, _, k, _, _ => k.elim
  | _ :: _, [], _, k, _, _ => k.elim

/-! ### Assertions -/
def EqA (u : Value) : Asn := ⟨fun _ _ v => v = u, fun _ h => h, u.oneCell', fun h _ _ _ e => e ▸ h⟩
def AnyA : Asn := ⟨fun _ _ _ => True, fun _ h => h, false, fun h => by cases h⟩
def AggA (l : List Asn) : Asn := ⟨fun w bad v => ∃ cs : List Value, v = .agg cs.toArray ∧ All2 w bad l cs,
  fun h ⟨cs, e, k⟩ => ⟨cs, e, k.ext h⟩, false, fun h => by cases h⟩
def TupA (l : List Asn) : Asn := ⟨fun w bad v => ∃ cs : List Value, v = .tuple cs.toArray ∧ All2 w bad l cs,
  fun h ⟨cs, e, k⟩ => ⟨cs, e, k.ext h⟩, false, fun h => by cases h⟩

/-- The cells from a place on. -/
def CellsAt (w : World) (b o : Nat) (cs : List Value) : Prop := ∀ i, i < cs.length → w.cell? ⟨b, o + i, none⟩ = cs[i]?
theorem CellsAt.of_heap {w w' : World} {b o cs} (h : CellsAt w b o cs) (e : w'.heap[b]? = w.heap[b]?) : CellsAt w' b o cs :=
  fun i hi => by rw [← h i hi]; exact World.cell?_of_block (w := w) e
theorem CellsAt.drop {w : World} {b o cs} (h : CellsAt w b o cs) (n : Nat) : CellsAt w b (o + n) (cs.drop n) := fun i hi => by
  have := h (n + i) (by simp at hi; omega)
  rw [List.getElem?_drop, ← this, Nat.add_assoc]
theorem CellsAt.take {w : World} {b o cs} (h : CellsAt w b o cs) (n : Nat) : CellsAt w b o (cs.take n) := fun i hi => by
  simp only [List.length_take] at hi
  rw [List.getElem?_take_of_lt (by omega)]
  exact h i (by omega)

def PtrA (l : List Asn) : Asn := ⟨fun w bad v => ∃ b o cs, v = .pointer (some ⟨b, o, none⟩) ∧ b < w.heap.size ∧ ¬ bad b ∧ All2 w bad l cs ∧ CellsAt w b o cs,
  fun h ⟨b, o, cs, e, hb, nb, k, c⟩ => ⟨b, o, cs, e, Nat.lt_of_lt_of_le hb h.size, (h.keep b hb nb).2, k.ext h, c.of_heap (h.keep b hb nb).1⟩,
  true, fun _ _ _ v ⟨_, _, _, e, _⟩ => by subst e; rfl⟩

/-- How a Lean value lies in cells. -/
structure Kd (α : Type) where
  n : Nat
  c : α → List Asn
  len : ∀ x, (c x).length = n
  one : ∀ x, (c x).all (·.cell) = true

def Kd.cs {α : Type} (kd : Kd α) (xs : List α) : List Asn := xs.flatMap kd.c
theorem Kd.cs_length {α : Type} (kd : Kd α) (xs : List α) : (kd.cs xs).length = xs.length * kd.n := by
  induction xs with
  | nil => simp [Kd.cs]
  | cons x xs ih => simp only [Kd.cs, List.flatMap_cons, List.length_append, kd.len, List.length_cons] at ih ⊢; rw [ih, Nat.succ_mul]; omega
theorem Kd.cs_one {α : Type} (kd : Kd α) (xs : List α) : (kd.cs xs).all (·.cell) = true := by
  induction xs with
  | nil => rfl
  | cons x xs ih => simp only [Kd.cs, List.flatMap_cons, List.all_append, Bool.and_eq_true] at ih ⊢; exact ⟨kd.one x, ih⟩
theorem Kd.cs_append {α : Type} (kd : Kd α) (xs ys : List α) : kd.cs (xs ++ ys) = kd.cs xs ++ kd.cs ys := by simp [Kd.cs]
theorem Kd.cs_at {α : Type} (kd : Kd α) : ∀ (xs : List α) (i : Nat) (x : α), xs[i]? = some x → ((kd.cs xs).drop (i * kd.n)).take kd.n = kd.c x
  | [], _, _, h => by simp at h
  | y :: ys, 0, x, h => by
    simp at h; subst h
    simp only [Kd.cs, List.flatMap_cons, Nat.zero_mul, List.drop_zero]
    rw [← kd.len y, List.take_left]
  | y :: ys, i + 1, x, h => by
    have ih := Kd.cs_at kd ys i x (by simpa using h)
    simp only [Kd.cs, List.flatMap_cons] at ih ⊢
    rw [show (i + 1) * kd.n = (kd.c y).length + i * kd.n by rw [kd.len, Nat.succ_mul]; omega, List.drop_append, List.drop_eq_nil_of_le (by omega)]
    simpa using ih

def SlcA {α : Type} (kd : Kd α) (xs : List α) : Asn := ⟨fun w bad v => ∃ base cap, v = .slice base xs.length cap ∧ xs.length ≤ cap ∧ (base = none → cap = 0) ∧
    (xs = [] ∨ ∃ b o cs, base = some ⟨b, o, none⟩ ∧ b < w.heap.size ∧ ¬ bad b ∧ All2 w bad (kd.cs xs) cs ∧ CellsAt w b o cs),
  fun h ⟨base, cap, e, hc, hn, k⟩ => ⟨base, cap, e, hc, hn, k.imp id fun ⟨b, o, cs, e, hb, nb, k, c⟩ =>
    ⟨b, o, cs, e, Nat.lt_of_lt_of_le hb h.size, (h.keep b hb nb).2, k.ext h, c.of_heap (h.keep b hb nb).1⟩⟩,
  true, fun _ _ _ v ⟨_, _, e, _⟩ => by subst e; rfl⟩

def kInt : Kd Int := ⟨1, fun x => [EqA (.int .i64 x)], fun _ => rfl, fun _ => rfl⟩
def kI32 : Kd Int := ⟨1, fun x => [EqA (.int .i32 x)], fun _ => rfl, fun _ => rfl⟩
def kU8 : Kd Int := ⟨1, fun x => [EqA (.int .u8 x)], fun _ => rfl, fun _ => rfl⟩
def kI8 : Kd Int := ⟨1, fun x => [EqA (.int .i8 x)], fun _ => rfl, fun _ => rfl⟩
def kBool : Kd Bool := ⟨1, fun x => [EqA (.bool x)], fun _ => rfl, fun _ => rfl⟩
def kStr : Kd (List UInt8) := ⟨1, fun x => [EqA (.string ⟨x.toArray⟩)], fun _ => rfl, fun _ => rfl⟩
def kSl {α : Type} (kd : Kd α) : Kd (List α) := ⟨1, fun xs => [SlcA kd xs], fun _ => rfl, fun _ => rfl⟩

/-! ### Owned memory -/
structure Ent where
  bs : List Nat
  P : World → Bad → Prop
  ext : ∀ {w bad w' bad'}, Ext w bad w' bad' → (∀ b ∈ bs, w'.heap[b]? = w.heap[b]?) → P w bad → P w' bad'
  lt : ∀ {w bad}, P w bad → ∀ b ∈ bs, b < w.heap.size

theorem lt_of_heap {w : World} {b : Nat} {o : Obj} (h : w.heap[b]? = some o) : b < w.heap.size := (Array.getElem?_eq_some_iff.1 h).1

/-- A block of the call's own that holds just these cells. -/
def BoxE (b : Nat) (l : List Asn) : Ent := ⟨[b], fun w bad => ∃ cs elem, w.heap[b]? = some (.cells (List.toArray cs) elem (0, 0)) ∧ All2 w bad l cs,
  fun h hb ⟨cs, el, e, k⟩ => ⟨cs, el, (hb _ (by simp)).trans e, k.ext h⟩,
  fun ⟨_, _, e, _⟩ b hb => by simp at hb; subst hb; exact lt_of_heap e⟩

/-- The block of a slice that has room. -/
def ownB : Value → Option Nat
  | .slice (some a) _ (_ + 1) => some a.block
  | _ => none
theorem ownB_ownBlock {v : Value} {g : Nat} (h : ownB v = some g) : v.ownBlock = some g := by
  unfold ownB at h; split at h <;> simp_all [Value.ownBlock]
theorem ownB_mk (g n cap : Nat) (h : cap ≠ 0) : ownB (.slice (some ⟨g, 0, none⟩) n cap) = some g := by
  cases cap with
  | zero => exact absurd rfl h
  | succ c => rfl
/-- A slice 'v' whose array is the call's own (or that has no room at all); 'e': its element type. -/
def SlE {α : Type} (e : TypeId) (v : Value) (kd : Kd α) (xs : List α) : Ent := ⟨(ownB v).toList, fun w bad => (xs = [] ∧ ∃ a, v = .slice a 0 0) ∨ ∃ g, ownB v = some g ∧ ∃ cs, All2 w bad (kd.cs xs) cs ∧ w.ownsRow 0 e kd.n v xs.length cs,
  fun h hb k => k.imp id fun ⟨g, hg, cs, k, o⟩ => ⟨g, hg, cs, k.ext h, by
    obtain ⟨hl, ho⟩ := o
    refine ⟨hl, ho.imp id fun ⟨g', cap, cur, hv, hg', hh, r⟩ => ⟨g', cap, cur, hv, hg', ?_, r⟩⟩
    have : g' = g := by have := ownB_ownBlock hg; rw [hv] at this; simpa [Value.ownBlock] using this
    subst this
    exact (hb g' (by simp [hg])).trans hh⟩,
  fun k b hb => by
    rcases k with ⟨_, a, rfl⟩ | ⟨g, hg, cs, k, o⟩
    · simp [ownB] at hb
    · rw [hg] at hb; simp at hb; subst hb; exact (o.lt b (ownB_ownBlock hg)).2⟩
/-- The value itself, known to fill one cell. -/
def HdA (u : Value) : Asn := ⟨fun _ _ v => v = u ∧ u.oneCell' = true, fun _ h => h, true, fun _ _ _ _ h => h.1 ▸ h.2⟩

def keys (O : List Ent) : List Nat := O.flatMap Ent.bs
def badOf (O : List Ent) (fg : Bad) : Bad := fun b => b ∈ keys O ∨ fg b
theorem badOf_nil (fg : Bad) : badOf [] fg = fg := by funext b; simp [badOf, keys]

structure Sat (w : World) (fg : Bad) (O : List Ent) : Prop where
  nodup : (keys O).Nodup
  out : ∀ b ∈ keys O, ¬ fg b
  lt : ∀ b, fg b → b < w.heap.size
  holds : ∀ e ∈ O, e.P w (badOf O fg)

theorem Sat.key_lt {w fg O} (h : Sat w fg O) : ∀ b ∈ keys O, b < w.heap.size := fun b hb => by
  obtain ⟨e, he, hbe⟩ := List.mem_flatMap.1 hb
  exact e.lt (h.holds e he) b hbe
theorem Sat.bad_lt {w fg O} (h : Sat w fg O) : ∀ b, badOf O fg b → b < w.heap.size := fun b hb => hb.elim (h.key_lt b) (h.lt b)

structure Frame (w0 : World) (O0 : List Ent) (w : World) (O : List Ent) : Prop where
  os : w.os = w0.os
  tape : w.tape = w0.tape
  output : w.output = w0.output
  size : w0.heap.size ≤ w.heap.size
  keep : ∀ b, b < w0.heap.size → b ∉ keys O0 → w.heap[b]? = w0.heap[b]? ∧ b ∉ keys O

theorem Frame.refl (w : World) (O : List Ent) : Frame w O w O := ⟨rfl, rfl, rfl, Nat.le_refl _, fun _ _ h => ⟨rfl, h⟩⟩
theorem Frame.trans {w O w1 O1 w2 O2} (h : Frame w O w1 O1) (k : Frame w1 O1 w2 O2) : Frame w O w2 O2 :=
  ⟨k.os.trans h.os, k.tape.trans h.tape, k.output.trans h.output, Nat.le_trans h.size k.size, fun b hb nb => by
    obtain ⟨e1, n1⟩ := h.keep b hb nb
    obtain ⟨e2, n2⟩ := k.keep b (Nat.lt_of_lt_of_le hb h.size) n1
    exact ⟨e2.trans e1, n2⟩⟩
theorem Frame.ext {w O w' O'} (h : Frame w O w' O') (fg : Bad) : Ext w (badOf O fg) w' (badOf O' fg) :=
  ⟨h.size, fun b hb nb => by
    have h1 : b ∉ keys O := fun x => nb (.inl x)
    have h2 : ¬ fg b := fun x => nb (.inr x)
    obtain ⟨e, n⟩ := h.keep b hb h1
    exact ⟨e, fun x => x.elim n h2⟩⟩

/-- Nothing that was there has turned. -/
structure Same (w w' : World) : Prop where
  os : w'.os = w.os
  tape : w'.tape = w.tape
  output : w'.output = w.output
  size : w.heap.size ≤ w'.heap.size
  keep : ∀ b, b < w.heap.size → w'.heap[b]? = w.heap[b]?
theorem Same.refl (w : World) : Same w w := ⟨rfl, rfl, rfl, Nat.le_refl _, fun _ _ => rfl⟩
theorem Same.trans {w w1 w2} (h : Same w w1) (k : Same w1 w2) : Same w w2 :=
  ⟨k.os.trans h.os, k.tape.trans h.tape, k.output.trans h.output, Nat.le_trans h.size k.size, fun b hb => (k.keep b (Nat.lt_of_lt_of_le hb h.size)).trans (h.keep b hb)⟩
theorem Same.frame {w w'} (h : Same w w') (O : List Ent) : Frame w O w' O := ⟨h.os, h.tape, h.output, h.size, fun b hb n => ⟨h.keep b hb, n⟩⟩
theorem Same.ext {w w'} (h : Same w w') (bad : Bad) : Ext w bad w' bad := ⟨h.size, fun b hb n => ⟨h.keep b hb, n⟩⟩
theorem Same.sat {w w' fg O} (h : Same w w') (s : Sat w fg O) : Sat w' fg O :=
  ⟨s.nodup, s.out, fun b hb => Nat.lt_of_lt_of_le (s.lt b hb) h.size, fun e he => e.ext (h.ext _) (fun b hb => h.keep b (e.lt (s.holds e he) b hb)) (s.holds e he)⟩
theorem Same.drew (w : World) : Same w { w with drawn := w.drawn + 1 } := ⟨rfl, rfl, rfl, Nat.le_refl _, fun _ _ => rfl⟩
theorem Same.alloc (w : World) (o : Obj) : Same w { w with heap := w.heap.push o } :=
  ⟨rfl, rfl, rfl, by simp, fun b hb => by show (w.heap.push o)[b]? = _; rw [Array.getElem?_push, if_neg (by omega)]⟩

/-! ### The state of a frame -/
abbrev Env := List (Nat × Asn)
def look : Env → Nat → Option Asn
  | [], _ => none
  | (s, A) :: r, t => bif Nat.beq s t then some A else look r t

def EnvSat (env : Env) (w : World) (bad : Bad) (tmps : Array Value) : Prop := ∀ t A, look env t = some A → A.P w bad (tmps.getD t undef)
theorem EnvSat.ext {env w bad w' bad' tmps} (h : Ext w bad w' bad') (k : EnvSat env w bad tmps) : EnvSat env w' bad' tmps := fun t A e => A.ext h (k t A e)
theorem EnvSat.put {env w bad tmps} {d : Nat} {A : Asn} {v : Value} (k : EnvSat env w bad tmps) (hd : d < tmps.size) (hv : A.P w bad v) :
    EnvSat ((d, A) :: env) w bad (tmps.setIfInBounds d v) := fun t B e => by
  simp only [look] at e
  by_cases h : d = t
  · subst h
    simp only [Nat.beq_refl, cond_true, Option.some.injEq] at e
    subst e
    simpa [hd] using hv
  · have : Nat.beq d t = false := by
      cases hb : Nat.beq d t with
      | false => rfl
      | true => exact absurd (Nat.eq_of_beq_eq_true hb) h
    rw [this, cond_false] at e
    have := k t B e
    simpa [Array.getElem?_setIfInBounds_ne h] using this

/-- What a frame's proof holds on to: the program, its number of slots, the world at the call, what was handed over, what is others'. -/
structure Cx where
  P : Program
  N : Nat
  w0 : World
  O0 : List Ent
  fg : Bad

structure St (c : Cx) (env : Env) (O : List Ent) (a : Act) (w : World) : Prop where
  defers : a.defers = []
  size : a.tmps.size = c.N
  sat : Sat w c.fg O
  frame : Frame c.w0 c.O0 w O
  env : EnvSat env w (badOf O c.fg) a.tmps

def EnvLe (env env' : Env) : Prop := ∀ t A, look env' t = some A → ∃ B, look env t = some B ∧ ∀ w bad v, B.P w bad v → A.P w bad v
theorem EnvLe.nil (env : Env) : EnvLe env [] := fun _ _ h => by cases h
theorem EnvLe.cons {env env' : Env} {t : Nat} {A B : Asn} (h : look env t = some B) (i : ∀ w bad v, B.P w bad v → A.P w bad v) (k : EnvLe env env') : EnvLe env ((t, A) :: env') := fun s C e => by
  simp only [look] at e
  by_cases hs : t = s
  · subst hs
    simp only [Nat.beq_refl, cond_true, Option.some.injEq] at e
    subst e
    exact ⟨B, h, i⟩
  · have : Nat.beq t s = false := by
      cases hb : Nat.beq t s with
      | false => rfl
      | true => exact absurd (Nat.eq_of_beq_eq_true hb) hs
    rw [this, cond_false] at e
    exact k s C e
theorem EnvLe.one {env env' : Env} {t : Nat} {A : Asn} (h : look env t = some A) (k : EnvLe env env') : EnvLe env ((t, A) :: env') := EnvLe.cons h (fun _ _ _ h => h) k
theorem St.weaken {c env env' O a w} (h : St c env O a w) (le : EnvLe env env') : St c env' O a w :=
  ⟨h.defers, h.size, h.sat, h.frame, fun t A e => let ⟨B, hB, i⟩ := le t A e; i _ _ _ (h.env t B hB)⟩
theorem St.put {c env O a w d A v} (h : St c env O a w) (hd : d < c.N) (hv : A.P w (badOf O c.fg) v) : St c ((d, A) :: env) O (a.put (some d) v) w :=
  ⟨h.defers, by simpa [Act.put] using h.size, h.sat, h.frame, h.env.put (by rw [h.size]; exact hd) hv⟩
theorem St.putNone {c env O a w v} (h : St c env O a w) : St c env O (a.put none v) w := h
theorem St.same {c env O a w w'} (h : St c env O a w) (s : Same w w') : St c env O a w' :=
  ⟨h.defers, h.size, s.sat h.sat, h.frame.trans (s.frame O), h.env.ext (s.ext _)⟩

/-! ### Control -/
abbrev Post := Exit → Act → World → Prop
def W (c : Cx) (env : Env) (O : List Ent) (code : Code) (Q : Post) : Prop := ∀ a w, St c env O a w → code.wp c.P Q a w
def QN (c : Cx) (env : Env) (O : List Ent) (Q : Post) : Prop := ∀ a w, St c env O a w → Q .normal a w
def QX (c : Cx) (id : Nat) (env : Env) (O : List Ent) (Q : Post) : Prop := ∀ a w, St c env O a w → Q (.exit id) a w
def QR (c : Cx) (env : Env) (O : List Ent) (Q : Post) : Prop := ∀ a w, St c env O a w → Q .ret a w

section
variable {c : Cx} {env : Env} {O : List Ent} {Q : Post}
theorem W.seq {x y : Code} (h : W c env O x (Exit.then (y.wp c.P Q) Q)) : W c env O (.seq x y) Q := fun a w s => wp_seq (h a w s)
theorem W.skip (h : QN c env O Q) : W c env O .skip Q := fun a w s => wp_skip (h a w s)
theorem W.ret (h : QR c env O Q) : W c env O .ret Q := fun a w s => wp_ret (h a w s)
theorem W.exit {id : Nat} (h : QX c id env O Q) : W c env O (.exit id) Q := fun a w s => wp_exit (h a w s)
theorem W.block {id : Nat} {x : Code} (h : W c env O x (Exit.inBlock id Q)) : W c env O (.block id x) Q := fun a w s => wp_block (h a w s)
theorem St.tmp {a : Act} {w : World} {t : Nat} {A : Asn} (s : St c env O a w) (h : look env t = some A) : A.P w (badOf O c.fg) (a.eval (.tmp t)) := s.env t A h
theorem W.cond {t : Nat} {b : Bool} {x y : Code} (h : look env t = some (EqA (.bool b))) (hx : b = true → W c env O x Q) (hy : b = false → W c env O y Q) :
    W c env O (.cond (.tmp t) x y) Q := fun a w s => wp_cond_split (t := b) (s.tmp h) (fun e => hx e a w s) (fun e => hy e a w s)
theorem W.weaken {env' : Env} {x : Code} (le : EnvLe env env') (h : W c env' O x Q) : W c env O x Q := fun a w s => h a w (s.weaken le)
theorem QN.weaken {env' : Env} (le : EnvLe env env') (h : QN c env' O Q) : QN c env O Q := fun a w s => h a w (s.weaken le)
theorem QN.then_ {y : Code} (h : W c env O y Q) : QN c env O (Exit.then (y.wp c.P Q) Q) := h
theorem QN.block {id : Nat} (h : QN c env O Q) : QN c env O (Exit.inBlock id Q) := h
theorem QX.then_ {id : Nat} {K : Act → World → Prop} (h : QX c id env O Q) : QX c id env O (Exit.then K Q) := h
theorem QX.here {id : Nat} (h : QN c env O Q) : QX c id env O (Exit.inBlock id Q) := fun a w s => by
  show (if id = id then Q .normal a w else Q (.exit id) a w); rw [if_pos rfl]; exact h a w s
theorem QX.there {id id' : Nat} (hne : Nat.beq id id' = false) (h : QX c id env O Q) : QX c id env O (Exit.inBlock id' Q) := fun a w s => by
  show (if id = id' then Q .normal a w else Q (.exit id) a w)
  rw [if_neg (fun e => by subst e; simp at hne)]; exact h a w s
theorem QR.then_ {K : Act → World → Prop} (h : QR c env O Q) : QR c env O (Exit.then K Q) := h
theorem QR.block {id : Nat} (h : QR c env O Q) : QR c env O (Exit.inBlock id Q) := h

theorem least (p : Nat → Prop) : ∀ k, p k → ∃ m, p m ∧ ∀ j, p j → m ≤ j := by
  intro k
  induction k using Nat.strongRecOn with
  | _ k ih =>
    intro hk
    by_cases h : ∃ j, j < k ∧ p j
    · obtain ⟨j, hj, pj⟩ := h; exact ih j hj pj
    · exact ⟨k, hk, fun j pj => Nat.le_of_not_lt fun hj => h ⟨j, hj, pj⟩⟩
/-- A loop: 'G k x': with k rounds, from the values x on, the Lean loop answers. -/
theorem W.loop {ι : Type} (G : Nat → ι → Prop) (E : ι → Env) (F : ι → List Ent) {body : Code} (h0 : ∀ x, ¬ G 0 x)
    (round : ∀ k x, G (k + 1) x → W c (E x) (F x) body (Exit.then (fun a w => ∃ x', G k x' ∧ St c (E x') (F x') a w) Q)) :
    ∀ k x, G k x → W c (E x) (F x) (.loop body) Q := by
  intro k x hk a w s
  classical
  let R : Act → World → Nat → Prop := fun a w k => ∃ x, G k x ∧ St c (E x) (F x) a w
  let μ : Act → World → Nat := fun a w => if h : ∃ m, R a w m ∧ ∀ j, R a w j → m ≤ j then Classical.choose h else 0
  have hμ : ∀ a w k, R a w k → μ a w ≤ k ∧ R a w (μ a w) := fun a w k h => by
    have he := least (R a w) k h
    simp only [μ, dif_pos he]
    exact ⟨(Classical.choose_spec he).2 k h, (Classical.choose_spec he).1⟩
  refine wp_loop (fun a w => ∃ k, R a w k) μ ⟨k, x, hk, s⟩ ?_
  rintro a w ⟨k, hR⟩
  obtain ⟨_, y, hy, sy⟩ := hμ a w k hR
  cases hm : μ a w with
  | zero => rw [hm] at hy; exact absurd hy (h0 y)
  | succ m =>
    rw [hm] at hy
    refine Code.wp_mono ?_ (round m y hy a w sy)
    intro e a' w' q
    cases e with
    | normal =>
      obtain ⟨x', hx', sx'⟩ := q
      have hR' : R a' w' m := ⟨x', hx', sx'⟩
      exact ⟨⟨m, hR'⟩, Nat.lt_of_le_of_lt (hμ a' w' m hR').1 (Nat.lt_succ_self m)⟩
    | exit id => exact q
    | goto l => exact q
    | ret => exact q
    | panic ch => exact q
    | outgrown => exact q
theorem QN.round {ι : Type} {G : ι → Prop} {E : ι → Env} {F : ι → List Ent} (x : ι) (h : G x) (le : EnvLe env (E x)) (hO : F x = O) :
    QN c env O (Exit.then (fun a w => ∃ x', G x' ∧ St c (E x') (F x') a w) Q) := fun _ _ s => ⟨x, h, hO ▸ s.weaken le⟩
/-- Several ways that meet again. -/
theorem W.join {ι : Type} (G : ι → Prop) (E : ι → Env) (F : ι → List Ent) {x : Code} (h : ∀ i, G i → QN c (E i) (F i) Q) (k : (∀ i, G i → QN c (E i) (F i) Q) → W c env O x Q) : W c env O x Q := k h
end
end Go.Abs
