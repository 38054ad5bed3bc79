/- The pure side's words: what may fail, loops, places where ways meet; and how a proof follows them. Function values. -/
import Derived.Test.YthmdmchmmgmblaaGreatA7
namespace Go.Abs
open Go Go.RowKit

/-! ### Pure words -/
def jn {κ R : Type} (rest : κ) (body : κ → Option R) : Option R := body rest
def loop0 {R : Type} : Nat → (Option R → Option R) → Option R
  | 0, _ => none
  | k + 1, f => f (loop0 k f)
def loop1 {A R : Type} : Nat → ((A → Option R) → A → Option R) → A → Option R
  | 0, _, _ => none
  | k + 1, f, a => f (loop1 k f) a
def loop2 {A B R : Type} : Nat → ((A → B → Option R) → A → B → Option R) → A → B → Option R
  | 0, _, _, _ => none
  | k + 1, f, a, b => f (loop2 k f) a b
def loop3 {A B C R : Type} : Nat → ((A → B → C → Option R) → A → B → C → Option R) → A → B → C → Option R
  | 0, _, _, _, _ => none
  | k + 1, f, a, b, c => f (loop3 k f) a b c
def loop4 {A B C D R : Type} : Nat → ((A → B → C → D → Option R) → A → B → C → D → Option R) → A → B → C → D → Option R
  | 0, _, _, _, _, _ => none
  | k + 1, f, a, b, c, d => f (loop4 k f) a b c d
def loop5 {A B C D E R : Type} : Nat → ((A → B → C → D → E → Option R) → A → B → C → D → E → Option R) → A → B → C → D → E → Option R
  | 0, _, _, _, _, _, _ => none
  | k + 1, f, a, b, c, d, e => f (loop5 k f) a b c d e
def loop6 {A B C D E F R : Type} : Nat → ((A → B → C → D → E → F → Option R) → A → B → C → D → E → F → Option R) → A → B → C → D → E → F → Option R
  | 0, _, _, _, _, _, _, _ => none
  | k + 1, f, a, b, c, d, e, g => f (loop6 k f) a b c d e g

theorem bif_s {α : Type} {b : Bool} {x y : Option α} {r : α} (h : (bif b then x else y) = some r) : (b = true ∧ x = some r) ∨ (b = false ∧ y = some r) := by
  cases b
  · exact .inr ⟨rfl, h⟩
  · exact .inl ⟨rfl, h⟩
theorem ite_n {α : Type} {p : Prop} [Decidable p] {x : Option α} {r : α} (h : (if p then x else none) = some r) : p ∧ x = some r := by
  by_cases hp : p
  · rw [if_pos hp] at h; exact ⟨hp, h⟩
  · rw [if_neg hp] at h; cases h
theorem bind_s {α β : Type} {x : Option α} {f : α → Option β} {r : β} (h : x.bind f = some r) : ∃ t, x = some t ∧ f t = some r := by
  cases x with
  | none => cases h
  | some t => exact ⟨t, rfl, h⟩
theorem some_s {α : Type} {x y : α} (h : some x = some y) : x = y := Option.some.inj h

section
variable {c : Cx} {env : Env} {O : List Ent} {Q : Post} {code : Code}
/-- What meets: 'κ' is the way on (a function), 'G' tells what follows if it answers. -/
theorem jn_s {κ R : Type} {rest : κ} {body : κ → Option R} {r : R} (h : jn rest body = some r) : body rest = some r := h

theorem W.loop0 {Γ R : Type} {k : Nat} {f : Option R → Option R} {r : R} (E : Γ → Env) (F : Γ → List Ent) (h : Abs.loop0 k f = some r) (g : Γ) (le : EnvLe env (E g)) (hO : F g = O)
    (round : ∀ (rec : Option R) (K : Act → World → Prop), (∀ g env', rec = some r → EnvLe env' (E g) → QN c env' (F g) (Exit.then K Q)) → ∀ g, f rec = some r → W c (E g) (F g) code (Exit.then K Q)) : W c env O (.loop code) Q := by
  subst hO
  refine W.weaken le (W.loop (ι := Γ) (fun k _ => Abs.loop0 k f = some r) E F (fun x h => by cases h) (fun k g h => round (Abs.loop0 k f) _ (fun g env' h le => QN.round g h le rfl) g h) k g h)
theorem W.loop1 {Γ A R : Type} {k : Nat} {f : (A → Option R) → A → Option R} {a0 : A} {r : R} (E : Γ → A → Env) (F : Γ → A → List Ent) (h : Abs.loop1 k f a0 = some r) (g : Γ) (le : EnvLe env (E g a0)) (hO : F g a0 = O)
    (round : ∀ (rec : A → Option R) (K : Act → World → Prop), (∀ g a env', rec a = some r → EnvLe env' (E g a) → QN c env' (F g a) (Exit.then K Q)) → ∀ g a, f rec a = some r → W c (E g a) (F g a) code (Exit.then K Q)) : W c env O (.loop code) Q := by
  subst hO
  refine W.weaken le (W.loop (ι := Γ × A) (fun k x => Abs.loop1 k f x.2 = some r) (fun x => E x.1 x.2) (fun x => F x.1 x.2) (fun x h => by cases h) (fun k x h => round (Abs.loop1 k f) _ (fun g a env' h le => QN.round (g, a) h le rfl) x.1 x.2 h) k (g, a0) h)
theorem W.loop2 {Γ A B R : Type} {k : Nat} {f : (A → B → Option R) → A → B → Option R} {a0 : A} {b0 : B} {r : R} (E : Γ → A → B → Env) (F : Γ → A → B → List Ent) (h : Abs.loop2 k f a0 b0 = some r) (g : Γ) (le : EnvLe env (E g a0 b0)) (hO : F g a0 b0 = O)
    (round : ∀ (rec : A → B → Option R) (K : Act → World → Prop), (∀ g a b env', rec a b = some r → EnvLe env' (E g a b) → QN c env' (F g a b) (Exit.then K Q)) → ∀ g a b, f rec a b = some r → W c (E g a b) (F g a b) code (Exit.then K Q)) : W c env O (.loop code) Q := by
  subst hO
  refine W.weaken le (W.loop (ι := Γ × A × B) (fun k x => Abs.loop2 k f x.2.1 x.2.2 = some r) (fun x => E x.1 x.2.1 x.2.2) (fun x => F x.1 x.2.1 x.2.2) (fun x h => by cases h) (fun k x h => round (Abs.loop2 k f) _ (fun g a b env' h le => QN.round (g, a, b) h le rfl) x.1 x.2.1 x.2.2 h) k (g, a0, b0) h)
theorem W.loop3 {Γ A B C R : Type} {k : Nat} {f : (A → B → C → Option R) → A → B → C → Option R} {a0 : A} {b0 : B} {c0 : C} {r : R} (E : Γ → A → B → C → Env) (F : Γ → A → B → C → List Ent) (h : Abs.loop3 k f a0 b0 c0 = some r) (g : Γ) (le : EnvLe env (E g a0 b0 c0)) (hO : F g a0 b0 c0 = O)
    (round : ∀ (rec : A → B → C → Option R) (K : Act → World → Prop), (∀ g a b d env', rec a b d = some r → EnvLe env' (E g a b d) → QN c env' (F g a b d) (Exit.then K Q)) → ∀ g a b d, f rec a b d = some r → W c (E g a b d) (F g a b d) code (Exit.then K Q)) : W c env O (.loop code) Q := by
  subst hO
  refine W.weaken le (W.loop (ι := Γ × A × B × C) (fun k x => Abs.loop3 k f x.2.1 x.2.2.1 x.2.2.2 = some r) (fun x => E x.1 x.2.1 x.2.2.1 x.2.2.2) (fun x => F x.1 x.2.1 x.2.2.1 x.2.2.2) (fun x h => by cases h) (fun k x h => round (Abs.loop3 k f) _ (fun g a b d env' h le => QN.round (g, a, b, d) h le rfl) x.1 x.2.1 x.2.2.1 x.2.2.2 h) k (g, a0, b0, c0) h)
theorem W.loop4 {Γ A B C D R : Type} {k : Nat} {f : (A → B → C → D → Option R) → A → B → C → D → Option R} {a0 : A} {b0 : B} {c0 : C} {d0 : D} {r : R} (E : Γ → A → B → C → D → Env) (F : Γ → A → B → C → D → List Ent) (h : Abs.loop4 k f a0 b0 c0 d0 = some r) (g : Γ) (le : EnvLe env (E g a0 b0 c0 d0)) (hO : F g a0 b0 c0 d0 = O)
    (round : ∀ (rec : A → B → C → D → Option R) (K : Act → World → Prop), (∀ g a b d e env', rec a b d e = some r → EnvLe env' (E g a b d e) → QN c env' (F g a b d e) (Exit.then K Q)) → ∀ g a b d e, f rec a b d e = some r → W c (E g a b d e) (F g a b d e) code (Exit.then K Q)) : W c env O (.loop code) Q := by
  subst hO
  refine W.weaken le (W.loop (ι := Γ × A × B × C × D) (fun k x => Abs.loop4 k f x.2.1 x.2.2.1 x.2.2.2.1 x.2.2.2.2 = some r) (fun x => E x.1 x.2.1 x.2.2.1 x.2.2.2.1 x.2.2.2.2) (fun x => F x.1 x.2.1 x.2.2.1 x.2.2.2.1 x.2.2.2.2) (fun x h => by cases h) (fun k x h => round (Abs.loop4 k f) _ (fun g a b d e env' h le => QN.round (g, a, b, d, e) h le rfl) x.1 x.2.1 x.2.2.1 x.2.2.2.1 x.2.2.2.2 h) k (g, a0, b0, c0, d0) h)
theorem W.loop5 {Γ A B C D V R : Type} {k : Nat} {f : (A → B → C → D → V → Option R) → A → B → C → D → V → Option R} {a0 : A} {b0 : B} {c0 : C} {d0 : D} {v0 : V} {r : R} (E : Γ → A → B → C → D → V → Env) (F : Γ → A → B → C → D → V → List Ent) (h : Abs.loop5 k f a0 b0 c0 d0 v0 = some r) (g : Γ) (le : EnvLe env (E g a0 b0 c0 d0 v0)) (hO : F g a0 b0 c0 d0 v0 = O)
    (round : ∀ (rec : A → B → C → D → V → Option R) (K : Act → World → Prop), (∀ g a b d e v env', rec a b d e v = some r → EnvLe env' (E g a b d e v) → QN c env' (F g a b d e v) (Exit.then K Q)) → ∀ g a b d e v, f rec a b d e v = some r → W c (E g a b d e v) (F g a b d e v) code (Exit.then K Q)) : W c env O (.loop code) Q := by
  subst hO
  refine W.weaken le (W.loop (ι := Γ × A × B × C × D × V) (fun k x => Abs.loop5 k f x.2.1 x.2.2.1 x.2.2.2.1 x.2.2.2.2.1 x.2.2.2.2.2 = some r) (fun x => E x.1 x.2.1 x.2.2.1 x.2.2.2.1 x.2.2.2.2.1 x.2.2.2.2.2) (fun x => F x.1 x.2.1 x.2.2.1 x.2.2.2.1 x.2.2.2.2.1 x.2.2.2.2.2) (fun x h => by cases h) (fun k x h => round (Abs.loop5 k f) _ (fun g a b d e v env' h le => QN.round (g, a, b, d, e, v) h le rfl) x.1 x.2.1 x.2.2.1 x.2.2.2.1 x.2.2.2.2.1 x.2.2.2.2.2 h) k (g, a0, b0, c0, d0, v0) h)
end

/-! ### Function values -/
section
variable {α β : Type}
/-- A function value that answers as 'p' does (where 'p' answers). -/
def FnA (P : Program) (as : α → List Asn) (res : β → Asn) (p : α → Option β) : Asn :=
  ⟨fun w bad v => ∃ g fs L, v = .func (.func g) #[] (List.toArray fs) ∧ callable P g = true ∧ All2 w bad L fs ∧ ∀ x y, p x = some y → Con P g [] (as x ++ L) (RA (res y)),
   fun h ⟨g, fs, L, e, hc, k, r⟩ => ⟨g, fs, L, e, hc, k.ext h, r⟩, true, fun _ _ _ v ⟨_, _, _, e, _⟩ => by subst e; rfl⟩
variable {P : Program} {o : Oper}
theorem q_makeFunc {g : FuncId} {as : α → List Asn} {res : β → Asn} {p : α → Option β} {xs : List Operand} {L : List Asn} (ho : o.op = .makeFunc (.func g) #[] xs.toArray) (hg : callable P g = true) (hl : xs.length = L.length)
    (hc : ∀ x y, p x = some y → Con P g [] (as x ++ L) (RA (res y))) : QS P (xs.zip L) o (FnA P as res p) := fun a w bad _ nd => by
  have ha := Opd.args nd hl
  refine Runs.value (v := .func (.func g) #[] (xs.map a.eval).toArray) ?_ ⟨⟨g, _, L, rfl, hg, ha, hc⟩, Same.refl w⟩
  simp [execOp, ho, Instr.makeFunc]
theorem q_callV {as : α → List Asn} {res : β → Asn} {p : α → Option β} {f : Operand} {xs : List Operand} {ts : Array TypeId} {x : α} {y : β} (ho : o.op = .call { callee := .value f, args := xs.toArray, argTypes := ts })
    (hp : p x = some y) (hl : xs.length = (as x).length) : QS P ((f, FnA P as res p) :: xs.zip (as x)) o (res y) := fun a w bad hlt nd => by
  obtain ⟨g, fs, L, hv, hg, hL, hc⟩ := nd.h0
  have ha := Opd.args nd.tl hl
  have hex : (execOp a.eval o).run P w = .ok (.enter g (xs.map a.eval ++ fs).toArray) w := by
    simp [execOp, ho, resolve, hv, Deferred.ofValue, invoke, run_callFunc hg]
  refine Runs.enter hex ((hc x y hp w bad (xs.map a.eval ++ fs) ⟨by simp [keys], by simp [keys], hlt, by simp⟩ (by rw [badOf_nil]; exact ha.append hL)).mono ?_)
  rintro e w' ⟨v, O', B, he, ⟨rfl, rfl⟩, s', f, hv⟩
  rw [badOf_nil] at hv
  exact ⟨v, he, hv, f.os, f.tape, f.output, f.size, fun b hb => (f.keep b hb (by simp [keys])).1⟩
theorem q_max {x y : Operand} {ts : Array TypeId} {k : IntKind} {m n : Int} (ho : o.op = .call { callee := .builtin .max, args := #[x, y], argTypes := ts }) :
    QS P [(x, EqA (.int k m)), (y, EqA (.int k n))] o (EqA (.int k (if n > m then n else m))) := fun a w bad _ nd => by
  have hx : a.eval x = .int k m := nd.h0
  have hy : a.eval y = .int k n := nd.tl.h0
  refine Runs.value (v := .int k (if n > m then n else m)) ?_ ⟨rfl, Same.refl w⟩
  simp [execOp, ho, resolve, invoke, builtin, Builtin.max_, Builtin.max2, hx, hy]
end

/-! ### Owned memory that is lent to a call that only reads -/
/-- 'A' of the frame's own is 'B' for one who may read it all. -/
def Lend (fg : Bad) (O : List Ent) (A B : Asn) : Prop := ∀ w v, Sat w fg O → A.P w (badOf O fg) v → B.P w fg v
theorem Lend.id {fg O} (A : Asn) : Lend fg O A A := fun w v s h => A.ext ⟨Nat.le_refl _, fun b _ nb => ⟨rfl, fun x => nb (.inr x)⟩⟩ h
theorem Lend.slc {fg O} {α : Type} {e : TypeId} {v : Value} {kd : Kd α} {xs : List α} (i : Nat) (h : O[i]? = some (SlE e v kd xs)) : Lend fg O (HdA v) (SlcA kd xs) := fun w u s hu => by
  obtain ⟨rfl, _⟩ := hu
  have hO := perm_pick1 h
  have s' := (s.perm hO)
  have hr := SlE.ro s'
  exact (SlcA kd xs).ext ⟨Nat.le_refl _, fun b _ nb => ⟨rfl, fun x => nb (.inr x)⟩⟩ hr
inductive LendL (fg : Bad) (O : List Ent) : List Asn → List Asn → Prop
  | nil : LendL fg O [] []
  | cons {A B l l'} (h : Lend fg O A B) (k : LendL fg O l l') : LendL fg O (A :: l) (B :: l')
theorem LendL.id {fg O} : ∀ l, LendL fg O l l
  | [] => .nil
  | A :: l => .cons (Lend.id A) (LendL.id l)
theorem LendL.all2 {fg O l l'} (h : LendL fg O l l') {w : World} (s : Sat w fg O) : ∀ {vs : List Value}, All2 w (badOf O fg) l vs → All2 w fg l' vs := by
  induction h with
  | nil => intro vs k; cases vs with
    | nil => trivial
    | cons v vs => exact k.elim
  | cons h k ih => intro vs kk; cases vs with
    | nil => exact kk.elim
    | cons v vs => exact ⟨h w v s kk.1, ih kk.2⟩
theorem Lend.box {fg O} {b : Nat} {l l' : List Asn} (i : Nat) (h : O[i]? = some (BoxE b l)) (k : LendL fg O l l') : Lend fg O (EqA (.pointer (some ⟨b, 0, none⟩))) (PtrA l') := fun w u s hu => by
  have hu : u = .pointer (some ⟨b, 0, none⟩) := hu
  obtain ⟨cs, el, hh, hk⟩ := s.at_ h
  refine ⟨b, 0, cs, hu, lt_of_heap hh, s.out b (List.mem_flatMap.2 ⟨_, List.mem_of_getElem? h, by simp [BoxE]⟩), k.all2 s hk, CellsAt.block hh⟩
/-- An assertion that rests on no memory. -/
def Flat (A : Asn) : Prop := ∀ w bad bad' v, A.P w bad v → A.P w bad' v
theorem Flat.eq (u : Value) : Flat (EqA u) := fun _ _ _ _ h => h
theorem All2.flat {w : World} {bad bad' : Bad} : ∀ {l : List Asn} {vs : List Value}, (∀ A ∈ l, Flat A) → All2 w bad l vs → All2 w bad' l vs
  | [], [], _, _ => trivial
  | A :: _, _ :: _, h, k => ⟨h A (by simp) _ _ _ _ k.1, All2.flat (fun B hB => h B (by simp [hB])) k.2⟩
  | [], _ :: _, _, k => k.elim
  | _ :: _, [], _, k => k.elim
theorem Flat.tup {l : List Asn} (h : ∀ A ∈ l, Flat A) : Flat (TupA l) := fun _ _ _ _ ⟨cs, e, k⟩ => ⟨cs, e, k.flat h⟩
theorem Flat.tup0 : Flat (TupA []) := Flat.tup (by simp)
theorem Flat.tup2 {A B : Asn} (h : Flat A) (k : Flat B) : Flat (TupA [A, B]) := Flat.tup (by simp; exact ⟨h, k⟩)
section
variable {P : Program} {o : Oper}
/-- A call that reads what is the frame's own. -/
theorem q_lend {fg : Bad} {O : List Ent} {f : FuncId} {xs : List Operand} {ts : Array TypeId} {as bs : List Asn} {A : Asn} (ho : o.op = .call { callee := .value (.func f), args := xs.toArray, argTypes := ts })
    (hf : callable P f = true) (hc : Con P f [] bs (RA A)) (hl : xs.length = as.length) (hL : LendL fg O as bs) (hA : Flat A) : QO P fg O (xs.zip as) o A := fun a w s nd => by
  have ha := hL.all2 s (Opd.args nd hl)
  refine Runs.enter (exec_call ho hf) ((hc w fg (xs.map a.eval) ⟨by simp [keys], by simp [keys], s.lt, by simp⟩ (by rw [badOf_nil]; exact ha)).mono ?_)
  rintro e w' ⟨v, O', B, he, ⟨rfl, rfl⟩, s', f, hv⟩
  exact ⟨v, he, hA _ _ _ _ hv, f.os, f.tape, f.output, f.size, fun b hb => (f.keep b hb (by simp [keys])).1⟩
/-- The nil slice as a slice of the call's own. -/
theorem SlE.nil_holds {α : Type} (e : TypeId) (kd : Kd α) (w : World) (bad : Bad) : (SlE e (.slice none 0 0) kd ([] : List α)).P w bad := .inl ⟨rfl, none, rfl⟩
theorem StTo.newNil {c : Cx} {env : Env} {O : List Ent} {α : Type} (e : TypeId) (kd : Kd α) : StTo c env O env (SlE e (.slice none 0 0) kd ([] : List α) :: O) := fun a w s => by
  have hk : keys (SlE e (.slice none 0 0) kd ([] : List α) :: O) = keys O := rfl
  have hb : badOf (SlE e (.slice none 0 0) kd ([] : List α) :: O) c.fg = badOf O c.fg := by funext b; simp [badOf, hk]
  refine ⟨s.defers, s.size, ⟨by rw [hk]; exact s.sat.nodup, by rw [hk]; exact s.sat.out, s.sat.lt, fun E hE => ?_⟩, ⟨s.frame.os, s.frame.tape, s.frame.output, s.frame.size, fun b hb nb => by rw [hk]; exact s.frame.keep b hb nb⟩, by rw [hb]; exact s.env⟩
  rw [hb]
  rcases List.mem_cons.1 hE with rfl | hE
  · exact SlE.nil_holds e kd w _
  · exact s.sat.holds E hE
theorem HdA.nil {w bad v} (h : (EqA (.slice none 0 0)).P w bad v) : (HdA (.slice none 0 0)).P w bad v := ⟨h, rfl⟩
theorem SlcA.nil {α : Type} (kd : Kd α) {w bad v} (h : (EqA (.slice none 0 0)).P w bad v) : (SlcA kd ([] : List α)).P w bad v := ⟨none, 0, h, Nat.le_refl _, fun _ => rfl, .inl rfl⟩
theorem SlcA.zsl {α : Type} (kd : Kd α) {w bad v} (h : ZslA.P w bad v) : (SlcA kd ([] : List α)).P w bad v := by
  obtain ⟨a, h⟩ := h
  exact ⟨a, 0, h, Nat.le_refl _, fun _ => rfl, .inl rfl⟩
end
section
variable {c : Cx} {env : Env} {O : List Ent} {Q : Post} {ops : Array Oper} {l : List Oper} {id : Nat} {x : Code}
/-- What is in a slot may be told otherwise. -/
theorem StTo.as {A B : Asn} (t : Nat) (h : look env t = some A) (i : ∀ w bad v, A.P w bad v → B.P w bad v) : StTo c env O ((t, B) :: env) O := fun a w s => s.add (i _ _ _ (s.tmp h))
theorem QX.weaken {env' : Env} (le : EnvLe env env') (h : QX c id env' O Q) : QX c id env O Q := fun a w s => h a w (s.weaken le)
theorem QR.weaken {env' : Env} (le : EnvLe env env') (h : QR c env' O Q) : QR c env O Q := fun a w s => h a w (s.weaken le)
theorem WL.weaken {env' : Env} (le : EnvLe env env') (h : WL c ops env' O l Q) : WL c ops env O l Q := fun a w s => h a w (s.weaken le)
end
end Go.Abs
