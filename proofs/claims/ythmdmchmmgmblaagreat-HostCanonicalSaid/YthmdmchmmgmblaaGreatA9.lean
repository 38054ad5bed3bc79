/- Words for the printed proofs: implications between assertions, calls, results. -/
import Derived.Test.YthmdmchmmgmblaaGreatA8
namespace Go.Abs
open Go Go.RowKit

def Imp (A B : Asn) : Prop := ∀ w bad v, A.P w bad v → B.P w bad v
inductive ImpL : List Asn → List Asn → Prop
  | nil : ImpL [] []
  | cons {A B l l'} (h : Imp A B) (k : ImpL l l') : ImpL (A :: l) (B :: l')
theorem Imp.id (A : Asn) : Imp A A := fun _ _ _ h => h
theorem ImpL.id : ∀ l, ImpL l l
  | [] => .nil
  | A :: l => .cons (Imp.id A) (ImpL.id l)
theorem ImpL.all2 {l l' : List Asn} (h : ImpL l l') {w : World} {bad : Bad} : ∀ {vs : List Value}, All2 w bad l vs → All2 w bad l' vs := by
  induction h with
  | nil => intro vs k; cases vs with
    | nil => trivial
    | cons v vs => exact k.elim
  | cons h k ih => intro vs kk; cases vs with
    | nil => exact kk.elim
    | cons v vs => exact ⟨h _ _ _ kk.1, ih kk.2⟩
theorem Imp.nil {α : Type} (kd : Kd α) : Imp (EqA (.slice none 0 0)) (SlcA kd ([] : List α)) := fun _ _ _ h => SlcA.nil kd h
theorem Imp.nilZ : Imp (EqA (.slice none 0 0)) ZslA := fun _ _ _ h => ⟨none, h⟩
theorem Imp.zsl {α : Type} (kd : Kd α) : Imp ZslA (SlcA kd ([] : List α)) := fun _ _ _ h => SlcA.zsl kd h
theorem Imp.nilHd : Imp (EqA (.slice none 0 0)) (HdA (.slice none 0 0)) := fun _ _ _ h => ⟨h, rfl⟩
theorem Imp.agg {l l'} (h : ImpL l l') : Imp (AggA l) (AggA l') := fun _ _ _ ⟨cs, e, k⟩ => ⟨cs, e, h.all2 k⟩
theorem Imp.tup {l l'} (h : ImpL l l') : Imp (TupA l) (TupA l') := fun _ _ _ ⟨cs, e, k⟩ => ⟨cs, e, h.all2 k⟩
theorem Imp.ptr {l l'} (h : ImpL l l') : Imp (PtrA l) (PtrA l') := fun _ _ _ ⟨b, o, cs, e, h1, h2, k, h3⟩ => ⟨b, o, cs, e, h1, h2, h.all2 k, h3⟩
theorem Lend.imp {fg O A B} (h : Imp A B) : Lend fg O A B := fun w v s k => Lend.id B w v s (h _ _ _ k)
theorem Lend.agg {fg O l l'} (h : LendL fg O l l') : Lend fg O (AggA l) (AggA l') := fun _ _ s ⟨cs, e, k⟩ => ⟨cs, e, h.all2 s k⟩
theorem Lend.tup {fg O l l'} (h : LendL fg O l l') : Lend fg O (TupA l) (TupA l') := fun _ _ s ⟨cs, e, k⟩ => ⟨cs, e, h.all2 s k⟩
theorem Lend.trans_imp {fg O A B C} (h : Lend fg O A B) (i : Imp B C) : Lend fg O A C := fun w v s k => i _ _ _ (h w v s k)
theorem LendL.imps {fg O l l'} (h : ImpL l l') : LendL fg O l l' := by
  induction h with
  | nil => exact .nil
  | cons h _ ih => exact .cons (Lend.imp h) ih

section
variable {P : Program} {o : Oper}
theorem Opd.imps {a : Act} {w : World} {bad : Bad} : ∀ {xs : List Operand} {as bs : List Asn}, ImpL as bs → Opd a w bad (xs.zip as) → Opd a w bad (xs.zip bs)
  | [], _, _, _, _ => fun p hp => by simp at hp
  | x :: xs, [], _, h, _ => by cases h; intro p hp; simp at hp
  | x :: xs, A :: as, _, .cons h k, n => by
    intro p hp
    rcases List.mem_cons.1 hp with rfl | hp
    · exact h _ _ _ n.h0
    · exact Opd.imps k n.tl p hp
theorem ImpL.length {as bs : List Asn} (h : ImpL as bs) : as.length = bs.length := by
  induction h with
  | nil => rfl
  | cons _ _ ih => simp [ih]
/-- A call: what it asks may be less than what is known. -/
theorem q_callI {f : FuncId} {xs : List Operand} {ts : Array TypeId} {as bs : List Asn} {A : Asn} (ho : o.op = .call { callee := .value (.func f), args := xs.toArray, argTypes := ts })
    (hf : callable P f = true) (hc : Con P f [] bs (RA A)) (hl : xs.length = as.length) (hI : ImpL as bs) : QS P (xs.zip as) o A := fun a w bad hlt nd =>
  q_call ho hf hc (hl.trans hI.length) a w bad hlt (Opd.imps hI nd)
theorem w_callI {f : FuncId} {xs : List Operand} {ts : Array TypeId} {as bs : List Asn} {Oc : List Ent} {R : List Ent → Asn → Prop} (ho : o.op = .call { callee := .value (.func f), args := xs.toArray, argTypes := ts })
    (hf : callable P f = true) (hc : Con P f Oc bs R) (hl : xs.length = as.length) (hI : ImpL as bs) : WS P Oc (xs.zip as) o R := fun fg a w s nd =>
  w_call ho hf hc (hl.trans hI.length) fg a w s (Opd.imps hI nd)
theorem QS.imp {nd A B} (h : QS P nd o A) (i : Imp A B) : QS P nd o B := fun a w bad hlt n => (h a w bad hlt n).mono fun _ _ ⟨hv, s⟩ => ⟨i _ _ _ hv, s⟩
theorem QS.need {x A B nd C} (h : QS P ((x, B) :: nd) o C) (i : Imp A B) : QS P ((x, A) :: nd) o C := fun a w bad hlt n => h a w bad hlt fun p hp => by
  rcases List.mem_cons.1 hp with rfl | hp
  · exact i _ _ _ n.h0
  · exact n.tl p hp
theorem QS.need2 {x A B y C nd D} (h : QS P ((y, C) :: (x, B) :: nd) o D) (i : Imp A B) : QS P ((y, C) :: (x, A) :: nd) o D := fun a w bad hlt n => h a w bad hlt fun p hp => by
  rcases List.mem_cons.1 hp with rfl | hp
  · exact n.h0
  rcases List.mem_cons.1 hp with rfl | hp
  · exact i _ _ _ n.tl.h0
  · exact n.tl.tl p hp
theorem WS.need {Oc x A B nd R} (h : WS P Oc ((x, B) :: nd) o R) (i : Imp A B) : WS P Oc ((x, A) :: nd) o R := fun fg a w s n => h fg a w s fun p hp => by
  rcases List.mem_cons.1 hp with rfl | hp
  · exact i _ _ _ n.h0
  · exact n.tl p hp
theorem WS.need2 {Oc x A B y C nd R} (h : WS P Oc ((y, C) :: (x, B) :: nd) o R) (i : Imp A B) : WS P Oc ((y, C) :: (x, A) :: nd) o R := fun fg a w s n => h fg a w s fun p hp => by
  rcases List.mem_cons.1 hp with rfl | hp
  · exact n.h0
  rcases List.mem_cons.1 hp with rfl | hp
  · exact i _ _ _ n.tl.h0
  · exact n.tl.tl p hp
/-- A new slice that is never written. -/
theorem QS.of_new {α : Type} {nd} {e : TypeId} {kd : Kd α} {zs : List α} (h : WS P [] nd o (RApp e kd zs)) : QS P nd o (SlcA kd zs) := fun a w bad hlt n => by
  refine (h bad a w ⟨by simp [keys], by simp [keys], hlt, by simp⟩ (by rw [badOf_nil]; exact n)).mono ?_
  rintro v w' ⟨O', A, ⟨v', rfl, rfl⟩, s, f, hv⟩
  obtain ⟨rfl, _⟩ := hv
  have hr := SlE.ro (O := []) s
  rw [badOf_nil] at hr
  exact ⟨hr, f.os, f.tape, f.output, f.size, fun b hb => (f.keep b hb (by simp [keys])).1⟩
theorem q_pickT {cnd x y : Operand} {b : Bool} {A : Asn} (ho : o.op = .pick cnd x y) (hb : b = true) : QS P [(cnd, EqA (.bool b)), (x, A)] o A := by subst hb; exact q_pick ho
theorem q_pickF {cnd x y : Operand} {b : Bool} {A : Asn} (ho : o.op = .pick cnd x y) (hb : b = false) : QS P [(cnd, EqA (.bool b)), (y, A)] o A := by subst hb; exact q_pick ho
end

section
variable {c : Cx} {env : Env} {O : List Ent} {Q : Post} {x y : Code} {t : Nat} {b : Bool}
theorem W.condP {α : Type} {u v : Option α} {r : α} (h : (bif b then u else v) = some r) (hl : look env t = some (EqA (.bool b))) (hx : b = true → u = some r → W c env O x Q) (hy : b = false → v = some r → W c env O y Q) : W c env O (.cond (.tmp t) x y) Q :=
  W.cond hl (fun e => hx e (by subst e; exact h)) (fun e => hy e (by subst e; exact h))
theorem W.condT (hl : look env t = some (EqA (.bool b))) (e : b = true) (hx : W c env O x Q) : W c env O (.cond (.tmp t) x y) Q := W.cond hl (fun _ => hx) (fun e' => by rw [e] at e'; cases e')
theorem W.condF (hl : look env t = some (EqA (.bool b))) (e : b = false) (hy : W c env O y Q) : W c env O (.cond (.tmp t) x y) Q := W.cond hl (fun e' => by rw [e] at e'; cases e') (fun _ => hy)

/-! ### Results, all that is owned let go -/
theorem St.free {fn : Func} {P : Program} {w0 : World} {O0 : List Ent} {a : Act} {w : World} {v : Value} {A B : Asn} (hw0 : w0 = c.w0) (hO0 : O0 = c.O0) (s : St c env O a w) (hr : (results fn a.tmps).run P w = .ok v w) (hA : A.P w (badOf O c.fg) v) (hL : Lend c.fg O A B) :
    a.defers = [] ∧ ∃ v, (results fn a.tmps).run P w = .ok v w ∧ PostOf w0 O0 c.fg (RA B) (.returned v) w := by
  subst hw0 hO0
  refine ⟨s.defers, v, hr, v, [], B, rfl, ⟨rfl, rfl⟩, ⟨by simp [keys], by simp [keys], s.sat.lt, by simp⟩, ⟨s.frame.os, s.frame.tape, s.frame.output, s.frame.size, fun b hb nb => ⟨(s.frame.keep b hb nb).1, by simp [keys]⟩⟩, ?_⟩
  rw [badOf_nil]
  exact hL w v s.sat hA
variable {fn : Func}
theorem QR.f1 {P : Program} {rv : ResultVar} {A B : Asn} (hP : P = c.P) (h : fn.results = #[rv]) (hA : ResA c.P env O rv A) (hL : Lend c.fg O A B) : QR c env O (bodyPost P fn (PostOf c.w0 c.O0 c.fg (RA B))) := fun a w s => by
  subst hP
  obtain ⟨v, hr, hv⟩ := hA.run s
  refine s.free (A := A) rfl rfl (v := v) ?_ hv hL
  rw [results_eq, h]
  simp [hr]
theorem QR.f2 {P : Program} {r1 r2 : ResultVar} {A1 A2 B : Asn} (hP : P = c.P) (h : fn.results = #[r1, r2]) (h1 : ResA c.P env O r1 A1) (h2 : ResA c.P env O r2 A2) (hL : Lend c.fg O (TupA [A1, A2]) B) : QR c env O (bodyPost P fn (PostOf c.w0 c.O0 c.fg (RA B))) := fun a w s => by
  subst hP
  obtain ⟨v, hr, hv⟩ := h1.run s
  obtain ⟨u, hr2, hu⟩ := h2.run s
  refine s.free (A := TupA [A1, A2]) rfl rfl (v := .tuple #[v, u]) ?_ ⟨[v, u], rfl, hv, hu, trivial⟩ hL
  rw [results_eq, h]
  simp [hr, hr2]
theorem QR.f3 {P : Program} {r1 r2 r3 : ResultVar} {A1 A2 A3 B : Asn} (hP : P = c.P) (h : fn.results = #[r1, r2, r3]) (h1 : ResA c.P env O r1 A1) (h2 : ResA c.P env O r2 A2) (h3 : ResA c.P env O r3 A3) (hL : Lend c.fg O (TupA [A1, A2, A3]) B) : QR c env O (bodyPost P fn (PostOf c.w0 c.O0 c.fg (RA B))) := fun a w s => by
  subst hP
  obtain ⟨v, hr, hv⟩ := h1.run s
  obtain ⟨u, hr2, hu⟩ := h2.run s
  obtain ⟨x, hr3, hx⟩ := h3.run s
  refine s.free (A := TupA [A1, A2, A3]) rfl rfl (v := .tuple #[v, u, x]) ?_ ⟨[v, u, x], rfl, hv, hu, hx, trivial⟩ hL
  rw [results_eq, h]
  simp [hr, hr2, hr3]
theorem QR.f4 {P : Program} {r1 r2 r3 r4 : ResultVar} {A1 A2 A3 A4 B : Asn} (hP : P = c.P) (h : fn.results = #[r1, r2, r3, r4]) (h1 : ResA c.P env O r1 A1) (h2 : ResA c.P env O r2 A2) (h3 : ResA c.P env O r3 A3) (h4 : ResA c.P env O r4 A4) (hL : Lend c.fg O (TupA [A1, A2, A3, A4]) B) : QR c env O (bodyPost P fn (PostOf c.w0 c.O0 c.fg (RA B))) := fun a w s => by
  subst hP
  obtain ⟨v, hr, hv⟩ := h1.run s
  obtain ⟨u, hr2, hu⟩ := h2.run s
  obtain ⟨x, hr3, hx⟩ := h3.run s
  obtain ⟨y, hr4, hy⟩ := h4.run s
  refine s.free (A := TupA [A1, A2, A3, A4]) rfl rfl (v := .tuple #[v, u, x, y]) ?_ ⟨[v, u, x, y], rfl, hv, hu, hx, hy, trivial⟩ hL
  rw [results_eq, h]
  simp [hr, hr2, hr3, hr4]
theorem QN.f0 {P : Program} {R : List Ent → Asn → Prop} (hP : P = c.P) (h : fn.results = #[]) (hR : R O (TupA [])) : QN c env O (bodyPost P fn (PostOf c.w0 c.O0 c.fg R)) := QN.r0 hP h hR
theorem QR.f0 {P : Program} {R : List Ent → Asn → Prop} (h : fn.results = #[]) (hR : R O (TupA [])) : QR c env O (bodyPost P fn (PostOf c.w0 c.O0 c.fg R)) := QR.none h hR
end
end Go.Abs
