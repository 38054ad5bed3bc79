/- Steps: what one operation does, said once for each kind. -/
import Derived.Test.YthmdmchmmgmblaaGreatA0
namespace Go.Abs
open Go Go.RowKit

def Opd (a : Act) (w : World) (bad : Bad) (nd : List (Operand × Asn)) : Prop := ∀ p ∈ nd, p.2.P w bad (a.eval p.1)
def Runs (P : Program) (o : Oper) (a : Act) (w : World) (R : Value → World → Prop) : Prop :=
  ∀ (K : Act → World → Prop) (Q : Post), (∀ v w', R v w' → K (a.put o.dst v) w') → o.wp P a w K Q
def QS (P : Program) (nd : List (Operand × Asn)) (o : Oper) (A : Asn) : Prop :=
  ∀ a w bad, (∀ b, bad b → b < w.heap.size) → Opd a w bad nd → Runs P o a w fun v w' => A.P w' bad v ∧ Same w w'
def QO (P : Program) (fg : Bad) (O : List Ent) (nd : List (Operand × Asn)) (o : Oper) (A : Asn) : Prop :=
  ∀ a w, Sat w fg O → Opd a w (badOf O fg) nd → Runs P o a w fun v w' => A.P w' (badOf O fg) v ∧ Same w w'

theorem QS.o {P nd o A fg O} (h : QS P nd o A) : QO P fg O nd o A := fun a w s n => h a w _ s.bad_lt n
theorem Runs.mono {P o a w} {R R' : Value → World → Prop} (h : Runs P o a w R) (k : ∀ v w', R v w' → R' v w') : Runs P o a w R' :=
  fun K Q hK => h K Q fun v w' r => hK v w' (k v w' r)
theorem Runs.value {P : Program} {o : Oper} {a : Act} {w w' : World} {v : Value} {R : Value → World → Prop} (h : (execOp a.eval o).run P w = .ok (.value v) w') (r : R v w') : Runs P o a w R :=
  fun K Q hK => by unfold Oper.wp; rw [h]; exact hK v w' r
theorem Runs.skip {P : Program} {o : Oper} {a : Act} {w w' : World} {R : Value → World → Prop} (h : (execOp a.eval o).run P w = .ok .skip w') (r : R undef w') : Runs P o a w R :=
  fun K Q hK => by unfold Oper.wp; rw [h]; exact hK undef w' r
theorem Runs.enter {P : Program} {o : Oper} {a : Act} {w w1 : World} {f : FuncId} {args : Array Value} {R : Value → World → Prop} (h : (execOp a.eval o).run P w = .ok (.enter f args) w1)
    (r : Calls P f args w1 fun e w' => ∃ v, e = .returned v ∧ R v w') : Runs P o a w R :=
  fun K Q hK => by
    unfold Oper.wp; rw [h]
    exact Calls.mono r fun e w' ⟨v, he, hr⟩ => by subst he; exact hK v w' hr

theorem Opd.h0 {a w bad x A r} (h : Opd a w bad ((x, A) :: r)) : A.P w bad (a.eval x) := h (x, A) (List.mem_cons_self ..)
theorem Opd.tl {a w bad p r} (h : Opd a w bad (p :: r)) : Opd a w bad r := fun q hq => h q (by simp [hq])

/-! ### Needs of an operation, out of the frame's state -/
def Needs (env : Env) (nd : List (Operand × Asn)) : Prop := ∀ (c : Cx) (O : List Ent) (a : Act) (w : World), St c env O a w → Opd a w (badOf O c.fg) nd
theorem Needs.nil {env} : Needs env [] := fun _ _ _ _ _ p hp => by simp at hp
theorem Needs.cons {env x A r} (h : ∀ (c : Cx) (O : List Ent) (a : Act) (w : World), St c env O a w → A.P w (badOf O c.fg) (a.eval x)) (k : Needs env r) : Needs env ((x, A) :: r) :=
  fun c O a w s p hp => by
    rcases List.mem_cons.1 hp with rfl | hp
    · exact h c O a w s
    · exact k c O a w s p hp
theorem Needs.t {env : Env} {t : Nat} {A : Asn} {r} (h : look env t = some A) (k : Needs env r) : Needs env ((.tmp t, A) :: r) := Needs.cons (fun _ _ _ _ s => s.tmp h) k
theorem Needs.k {env : Env} {v : Value} {r} (k : Needs env r) : Needs env ((.const v, EqA v) :: r) := Needs.cons (fun _ _ _ _ _ => rfl) k
theorem Needs.ka {env : Env} {v : Value} {A : Asn} {r} (h : ∀ w bad, A.P w bad v) (k : Needs env r) : Needs env ((.const v, A) :: r) := Needs.cons (fun _ _ _ _ _ => h _ _) k

/-! ### Lists of operations in the text's order -/
def WL (c : Cx) (ops : Array Oper) (env : Env) (O : List Ent) (l : List Oper) (Q : Post) : Prop := ∀ a w, St c env O a w → wpList c.P ops Q l a w
section
variable {c : Cx} {ops : Array Oper} {env : Env} {O : List Ent} {Q : Post} {rest : List Oper} {o : Oper}
theorem WL.nil (h : QN c env O Q) : WL c ops env O [] Q := h
theorem W.region {id : Nat} {l : List Oper} (h : WL c l.toArray env O l Q) : W c env O (.region id l.toArray false) Q := fun a w s => wp_region_lit (h a w s)

/-- Is the operation wanted here? -/
def Wanted (ops : Array Oper) (env : Env) (o : Oper) : Prop := ∀ (c : Cx) (O : List Ent) (a : Act) (w : World), St c env O a w → Region.wanted o (yielded ops a.tmps) = true
def Unwanted (ops : Array Oper) (env : Env) (o : Oper) : Prop := ∀ (c : Cx) (O : List Ent) (a : Act) (w : World), St c env O a w → Region.wanted o (yielded ops a.tmps) = false
theorem Wanted.plain (h : o.guard = none) : Wanted ops env o := fun _ _ _ _ _ => by simp [Region.wanted, h]
theorem getD_bool {tmps : Array Value} {t : Nat} {b : Bool} (h : tmps.getD t undef = .bool b) : tmps[t]? = some (.bool b) := by
  rw [Array.getD_eq_getD_getElem?] at h
  cases hx : tmps[t]? with
  | none => rw [hx] at h; simp [undef] at h
  | some v => rw [hx] at h; simp at h; rw [h]
theorem yielded_of {a : Act} {w : World} {g t : Nat} {b : Bool} (hd : (ops[g]?).bind (·.dst) = some t) (h : look env t = some (EqA (.bool b))) (s : St c env O a w) : yielded ops a.tmps g = some b := by
  unfold yielded
  rw [hd, Option.bind_some, getD_bool (s.tmp h)]
theorem Wanted.on {g t : Nat} {b want : Bool} (hg : o.guard = some (g, want)) (hd : (ops[g]?).bind (·.dst) = some t) (h : look env t = some (EqA (.bool b))) (e : b = want) : Wanted ops env o :=
  fun _ _ _ _ s => by subst e; simp only [Region.wanted, hg, yielded_of hd h s, beq_self_eq_true]
theorem Unwanted.on {g t : Nat} {b want : Bool} (hg : o.guard = some (g, want)) (hd : (ops[g]?).bind (·.dst) = some t) (h : look env t = some (EqA (.bool b))) (e : b = !want) : Unwanted ops env o :=
  fun _ _ _ _ s => by subst e; simp only [Region.wanted, hg, yielded_of hd h s]; cases want <;> rfl
/-- The guard's own temporary holds nothing. -/
def UndA : Asn := ⟨fun _ _ v => v = undef, fun _ h => h, false, fun h => by cases h⟩
theorem Unwanted.und {g t : Nat} {want : Bool} (hg : o.guard = some (g, want)) (hd : (ops[g]?).bind (·.dst) = some t) (h : look env t = some UndA) : Unwanted ops env o :=
  fun _ _ a _ s => by
    have hu : a.tmps.getD t undef = undef := s.tmp h
    simp only [Region.wanted, hg, yielded, hd, Option.bind_some]
    rw [Array.getD_eq_getD_getElem?] at hu
    cases hx : a.tmps[t]? with
    | none => rfl
    | some v => rw [hx] at hu; simp at hu; subst hu; rfl

theorem WL.skip {d : Nat} (hw : Unwanted ops env o) (hd : o.dst = some d) (hN : Nat.blt d c.N = true) (h : WL c ops ((d, UndA) :: env) O rest Q) : WL c ops env O (o :: rest) Q := fun a w s => by
  unfold wpList
  rw [hw c O a w s, if_neg (by simp), hd]
  exact h _ _ (s.put (by simpa using hN) rfl)
theorem WL.skip0 (hw : Unwanted ops env o) (hd : o.dst = none) (h : WL c ops env O rest Q) : WL c ops env O (o :: rest) Q := fun a w s => by
  unfold wpList
  rw [hw c O a w s, if_neg (by simp), hd]
  exact h _ _ s
theorem WL.step (hw : Wanted ops env o) (R : Env → List Ent → Prop)
    (hs : ∀ a w, St c env O a w → Runs c.P o a w fun v w' => ∃ env' O', R env' O' ∧ St c env' O' (a.put o.dst v) w')
    (h : ∀ env' O', R env' O' → WL c ops env' O' rest Q) : WL c ops env O (o :: rest) Q := fun a w s => by
  unfold wpList
  rw [hw c O a w s, if_pos rfl]
  exact .inl (hs a w s _ _ fun v w' ⟨env', O', r, s'⟩ => h env' O' r _ _ s')
/-- A step that leaves memory alone. -/
theorem WL.q {d : Nat} {nd : List (Operand × Asn)} {A : Asn} (hw : Wanted ops env o) (hd : o.dst = some d) (hN : Nat.blt d c.N = true) (hn : Needs env nd) (hq : QO c.P c.fg O nd o A)
    (h : WL c ops ((d, A) :: env) O rest Q) : WL c ops env O (o :: rest) Q :=
  WL.step hw (fun e O' => e = (d, A) :: env ∧ O' = O) (fun a w s => (hq a w s.sat (hn c O a w s)).mono fun v w' ⟨hv, sm⟩ => by
    rw [hd]; exact ⟨_, _, ⟨rfl, rfl⟩, (s.same sm).put (by simpa using hN) hv⟩) (fun _ _ ⟨e, f⟩ => by subst e; subst f; exact h)
/-- The common form: no guard. -/
theorem WL.p {d : Nat} {nd : List (Operand × Asn)} {A : Asn} (hg : o.guard = none) (hd : o.dst = some d) (hN : Nat.blt d c.N = true) (hn : Needs env nd) (hq : QS c.P nd o A)
    (h : WL c ops ((d, A) :: env) O rest Q) : WL c ops env O (o :: rest) Q := WL.q (Wanted.plain hg) hd hN hn hq.o h
end

/-! ### Plain operations -/
section
variable {P : Program} {o : Oper}
theorem q_move {x : Operand} {A : Asn} (ho : o.op = .move x) : QS P [(x, A)] o A := fun a w bad _ n =>
  Runs.value (v := a.eval x) (by simp only [execOp, ho]; rfl) ⟨n.h0, Same.refl w⟩
theorem q_assign {x : Operand} {A : Asn} (ho : o.op = .assign x) : QS P [(x, A)] o A := fun a w bad _ n =>
  Runs.value (v := a.eval x) (by simp only [execOp, ho]; rfl) ⟨n.h0, Same.refl w⟩
theorem q_pick {cnd x y : Operand} {b : Bool} {A : Asn} (ho : o.op = .pick cnd x y) : QS P [(cnd, EqA (.bool b)), (bif b then x else y, A)] o A := fun a w bad _ n => by
  have hb : a.eval cnd = .bool b := n.h0
  have hA := n.tl.h0
  refine Runs.value (v := if b then a.eval x else a.eval y) (by simp only [execOp, ho, hb]; cases b <;> rfl) ⟨?_, Same.refl w⟩
  cases b <;> exact hA

def intOp : BinOp → IntKind → Int → Int → Option Value
  | .add, k, x, y => some (.int k (k.wrap (x + y)))
  | .sub, k, x, y => some (.int k (k.wrap (x - y)))
  | .mul, k, x, y => some (.int k (k.wrap (x * y)))
  | .eql, _, x, y => some (.bool (x == y))
  | .neq, _, x, y => some (.bool (x != y))
  | .lss, _, x, y => some (.bool (decide (x < y)))
  | .leq, _, x, y => some (.bool (decide (x ≤ y)))
  | .gtr, _, x, y => some (.bool (decide (x > y)))
  | .geq, _, x, y => some (.bool (decide (x ≥ y)))
  | _, _, _, _ => none
theorem q_int {op : BinOp} {xt yt : TypeId} {x y : Operand} {k : IntKind} {m n : Int} {r : Value} (ho : o.op = .binOp op xt x y yt) (hr : intOp op k m n = some r) :
    QS P [(x, EqA (.int k m)), (y, EqA (.int k n))] o (EqA r) := fun a w bad _ nd => by
  have hx : a.eval x = .int k m := nd.h0
  have hy : a.eval y = .int k n := nd.tl.h0
  refine Runs.value (v := r) ?_ ⟨rfl, Same.refl w⟩
  cases op <;> simp only [intOp, Option.some.injEq, reduceCtorEq] at hr <;> subst hr <;> simp [execOp, ho, hx, hy, eqGuard, binOp, Op.intArith, Op.intCmp, bne]
abbrev Str := List UInt8
def strV (l : Str) : Value := .string ⟨l.toArray⟩
theorem q_str {xt yt : TypeId} {x y : Operand} {s t : Str} (ho : o.op = .binOp .eql xt x y yt) :
    QS P [(x, EqA (strV s)), (y, EqA (strV t))] o (EqA (.bool (s == t))) := fun a w bad _ nd => by
  have hx : a.eval x = .string ⟨s.toArray⟩ := nd.h0
  have hy : a.eval y = .string ⟨t.toArray⟩ := nd.tl.h0
  refine Runs.value (v := .bool (s == t)) ?_ ⟨rfl, Same.refl w⟩
  simp [execOp, ho, hx, hy, eqGuard, binOp, Op.stringOp]
theorem q_strne {xt yt : TypeId} {x y : Operand} {s t : Str} (ho : o.op = .binOp .neq xt x y yt) :
    QS P [(x, EqA (strV s)), (y, EqA (strV t))] o (EqA (.bool (s != t))) := fun a w bad _ nd => by
  have hx : a.eval x = .string ⟨s.toArray⟩ := nd.h0
  have hy : a.eval y = .string ⟨t.toArray⟩ := nd.tl.h0
  refine Runs.value (v := .bool (s != t)) ?_ ⟨rfl, Same.refl w⟩
  simp [execOp, ho, hx, hy, eqGuard, binOp, Op.stringOp, bne]
theorem q_quo {xt yt : TypeId} {x y : Operand} {k : IntKind} {m n : Int} (ho : o.op = .binOp .quo xt x y yt) (hn : n ≠ 0) :
    QS P [(x, EqA (.int k m)), (y, EqA (.int k n))] o (EqA (.int k (k.wrap (m.tdiv n)))) := fun a w bad _ nd => by
  have hx : a.eval x = .int k m := nd.h0
  have hy : a.eval y = .int k n := nd.tl.h0
  exact Runs.value (v := .int k (k.wrap (m.tdiv n))) (by simp [execOp, ho, hx, hy, eqGuard, binOp, Op.intDiv, hn]) ⟨rfl, Same.refl w⟩
theorem q_rem {xt yt : TypeId} {x y : Operand} {k : IntKind} {m n : Int} (ho : o.op = .binOp .rem xt x y yt) (hn : n ≠ 0) :
    QS P [(x, EqA (.int k m)), (y, EqA (.int k n))] o (EqA (.int k (m.tmod n))) := fun a w bad _ nd => by
  have hx : a.eval x = .int k m := nd.h0
  have hy : a.eval y = .int k n := nd.tl.h0
  exact Runs.value (v := .int k (m.tmod n)) (by simp [execOp, ho, hx, hy, eqGuard, binOp, Op.intDiv, hn]) ⟨rfl, Same.refl w⟩
theorem q_shl {xt yt : TypeId} {x y : Operand} {k k' : IntKind} {m n : Int} (ho : o.op = .binOp .shl xt x y yt) (hn : 0 ≤ n) :
    QS P [(x, EqA (.int k m)), (y, EqA (.int k' n))] o (EqA (.int k (k.wrap (m * 2 ^ (min n.toNat k.bits))))) := fun a w bad _ nd => by
  have hx : a.eval x = .int k m := nd.h0
  have hy : a.eval y = .int k' n := nd.tl.h0
  exact Runs.value (v := .int k (k.wrap (m * 2 ^ (min n.toNat k.bits)))) (by simp [execOp, ho, hx, hy, eqGuard, binOp, Op.shift, Int.not_lt.2 hn]) ⟨rfl, Same.refl w⟩
theorem q_shr {xt yt : TypeId} {x y : Operand} {k k' : IntKind} {m n : Int} (ho : o.op = .binOp .shr xt x y yt) (hn : 0 ≤ n) :
    QS P [(x, EqA (.int k m)), (y, EqA (.int k' n))] o (EqA (.int k (m.fdiv (2 ^ (min n.toNat k.bits))))) := fun a w bad _ nd => by
  have hx : a.eval x = .int k m := nd.h0
  have hy : a.eval y = .int k' n := nd.tl.h0
  exact Runs.value (v := .int k (m.fdiv (2 ^ (min n.toNat k.bits)))) (by simp [execOp, ho, hx, hy, eqGuard, binOp, Op.shift, Int.not_lt.2 hn]) ⟨rfl, Same.refl w⟩
theorem q_not {t : TypeId} {x : Operand} {b : Bool} (ho : o.op = .unOp .not t x) : QS P [(x, EqA (.bool b))] o (EqA (.bool !b)) := fun a w bad _ nd => by
  have hx : a.eval x = .bool b := nd.h0
  exact Runs.value (v := .bool !b) (by simp [execOp, ho, hx, Op.unary]) ⟨rfl, Same.refl w⟩
theorem q_neg {t : TypeId} {x : Operand} {k : IntKind} {m : Int} (ho : o.op = .unOp .neg t x) : QS P [(x, EqA (.int k m))] o (EqA (.int k (k.wrap (0 - m)))) := fun a w bad _ nd => by
  have hx : a.eval x = .int k m := nd.h0
  exact Runs.value (v := .int k (k.wrap (0 - m))) (by simp [execOp, ho, hx, Op.unary, Op.intArith]) ⟨rfl, Same.refl w⟩
theorem q_extract {x : Operand} {i : Nat} {l : List Asn} {A : Asn} (ho : o.op = .extract x i) (hA : l[i]? = some A) : QS P [(x, TupA l)] o A := fun a w bad _ nd => by
  obtain ⟨cs, hv, hl⟩ := nd.h0
  obtain ⟨v, hv', hA'⟩ := hl.get hA
  exact Runs.value (v := v) (by simp [execOp, ho, hv, Instr.extract, hv']) ⟨hA', Same.refl w⟩
theorem q_nilCheck {x : Operand} {l : List Asn} (ho : o.op = .nilCheck x) : QS P [(x, PtrA l)] o (PtrA l) := fun a w bad _ nd => by
  obtain ⟨b, off, cs, hv, r⟩ := nd.h0
  exact Runs.value (v := .pointer (some ⟨b, off, none⟩)) (by simp [execOp, ho, hv]) ⟨⟨b, off, cs, rfl, r⟩, Same.refl w⟩
theorem q_nilCheckP {x : Operand} {p : Addr} (ho : o.op = .nilCheck x) : QS P [(x, EqA (.pointer (some p)))] o (EqA (.pointer (some p))) := fun a w bad _ nd => by
  have hv : a.eval x = .pointer (some p) := nd.h0
  exact Runs.value (v := .pointer (some p)) (by simp [execOp, ho, hv]) ⟨rfl, Same.refl w⟩
def convTo (P : Program) (dst : TypeId) : Option IntKind := match P.underlying dst with | some (.int k) => some k | _ => none
theorem q_conv {src dst : TypeId} {x : Operand} {k k' : IntKind} {m : Int} (ho : o.op = .convert src dst x) (hd : convTo P dst = some k) (hs : (convTo P src).isSome = true) :
    QS P [(x, EqA (.int k' m))] o (EqA (.int k (k.wrap m))) := fun a w bad _ nd => by
  have hx : a.eval x = .int k' m := nd.h0
  have h1 : P.underlying dst = some (.int k) := by
    unfold convTo at hd; split at hd <;> simp_all
  obtain ⟨k2, h2⟩ : ∃ k2, P.underlying src = some (.int k2) := by
    unfold convTo at hs; split at hs
    · exact ⟨_, by assumption⟩
    · simp at hs
  exact Runs.value (v := .int k (k.wrap m)) (by simp [execOp, ho, hx, convert, underlying, h1, h2, Conv.intToInt]) ⟨rfl, Same.refl w⟩

/-! ### Reading memory -/
/-- Is a type a struct or array, and how many cells has it? -/
def shapeOf (P : Program) (t : TypeId) : Option (Bool × Nat) :=
  match P.underlying t, P.info? t with
  | some d, some i => some ((match d with | .struct _ | .array _ _ => true | _ => false), i.size)
  | _, _ => none
theorem shapeOf_spec {t : TypeId} {ag : Bool} {n : Nat} (h : shapeOf P t = some (ag, n)) (w : World) : (isAgg t).run P w = .ok ag w ∧ (sizeOf t).run P w = .ok n w := by
  unfold shapeOf at h
  split at h
  · rename_i d i hu hi
    simp only [Option.some.injEq, Prod.mk.injEq] at h
    obtain ⟨h1, h2⟩ := h
    subst h1 h2
    constructor
    · cases d <;> simp [isAgg, underlying, hu]
    · simp [sizeOf, typeInfo, hi]
  · simp at h
theorem addr_add (b o i : Nat) : (⟨b, o, none⟩ : Addr).add i = ⟨b, o + i, none⟩ := by unfold Addr.add; split <;> simp_all
theorem run_loadVar_agg {t : TypeId} {n b off : Nat} {cs : List Value} {w : World} (hs : shapeOf P t = some (true, n)) (hc : CellsAt w b off cs) (hl : cs.length = n) :
    (loadVar t ⟨b, off, none⟩).run P w = .ok (.agg cs.toArray) w := by
  obtain ⟨h1, h2⟩ := shapeOf_spec hs w
  have h3 := run_loadCells_list (P := P) w ⟨b, off, none⟩ cs (fun j v hv => by
    rw [addr_add, hc j (List.getElem?_eq_some_iff.1 hv).1, hv])
  subst hl
  simp [loadVar, h1, h2, h3]
theorem run_loadVar_one {t : TypeId} {n b off : Nat} {v : Value} {w : World} (hs : shapeOf P t = some (false, n)) (hc : w.cell? ⟨b, off, none⟩ = some v) :
    (loadVar t ⟨b, off, none⟩).run P w = .ok v w := by
  obtain ⟨h1, _⟩ := shapeOf_spec hs w
  simp [loadVar, h1, hc]
theorem q_loadS {t : TypeId} {x : Operand} {l l' : List Asn} {n : Nat} (ho : o.op = .load t x) (hs : shapeOf P t = some (true, n)) (hn : n ≤ l.length) (hl : l.take n = l') :
    QS P [(x, PtrA l)] o (AggA l') := fun a w bad _ nd => by
  obtain ⟨b, off, cs, hv, hb, nb, hk, hc⟩ := nd.h0
  subst hl
  have hlen := hk.length
  refine Runs.value (v := .agg (cs.take n).toArray) ?_ ⟨⟨_, rfl, hk.take n⟩, Same.refl w⟩
  have := run_loadVar_agg (w := w) hs (hc.take n) (by simp; omega)
  simp [execOp, ho, hv, Instr.loadAt, Instr.sureAddr, this]
theorem q_load {t : TypeId} {x : Operand} {l : List Asn} {A : Asn} {n : Nat} (ho : o.op = .load t x) (hs : shapeOf P t = some (false, n)) :
    QS P [(x, PtrA (A :: l))] o A := fun a w bad _ nd => by
  obtain ⟨b, off, cs, hv, hb, nb, hk, hc⟩ := nd.h0
  cases cs with
  | nil => exact hk.elim
  | cons v cs =>
    have h0 := hc 0 (by simp)
    simp only [Nat.add_zero, List.getElem?_cons_zero] at h0
    refine Runs.value (v := v) ?_ ⟨hk.1, Same.refl w⟩
    have := run_loadVar_one (P := P) hs h0
    simp [execOp, ho, hv, Instr.loadAt, Instr.sureAddr, this]
/-- Where a field lies (a field without cells is not told). -/
def fieldOff (P : Program) (s : TypeId) (j : Nat) : Option Nat :=
  match P.underlying s with
  | some (.struct fs) => match fs[j]? with
    | some f => match P.info? f.type with
      | some i => if i.size = 0 then none else some f.offset
      | none => none
    | none => none
  | _ => none
theorem run_fieldAt {s : TypeId} {j off b o' : Nat} {w : World} (hf : fieldOff P s j = some off) :
    (Instr.fieldAt s (.pointer (some ⟨b, o', none⟩)) j).run P w = .ok (.pointer (some ⟨b, o' + off, none⟩)) w := by
  unfold fieldOff at hf
  split at hf
  · rename_i fs hu
    split at hf
    · rename_i f hfj
      split at hf
      · rename_i i hi
        split at hf
        · simp at hf
        · rename_i hne
          simp only [Option.some.injEq] at hf
          subst hf
          simp [Instr.fieldAt, underlying, hu, hfj, Instr.sureAddr, fieldPlace, sizeOf, typeInfo, hi, hne, addr_add]
      · simp at hf
    · simp at hf
  · simp at hf
theorem q_field {s : TypeId} {x : Operand} {j off : Nat} {l l' : List Asn} (ho : o.op = .fieldAddr s x j) (hf : fieldOff P s j = some off) (hl : l.drop off = l') : QS P [(x, PtrA l)] o (PtrA l') := fun a w bad _ nd => by
  obtain ⟨b, o', cs, hv, hb, nb, hk, hc⟩ := nd.h0
  subst hl
  refine Runs.value (v := .pointer (some ⟨b, o' + off, none⟩)) ?_ ⟨⟨b, o' + off, cs.drop off, rfl, hb, nb, hk.drop off, hc.drop off⟩, Same.refl w⟩
  simp [execOp, ho, hv, run_fieldAt hf]
theorem q_fieldP {s : TypeId} {x : Operand} {j off b o' : Nat} (ho : o.op = .fieldAddr s x j) (hf : fieldOff P s j = some off) :
    QS P [(x, EqA (.pointer (some ⟨b, o', none⟩)))] o (EqA (.pointer (some ⟨b, o' + off, none⟩))) := fun a w bad _ nd => by
  have hv : a.eval x = .pointer (some ⟨b, o', none⟩) := nd.h0
  refine Runs.value (v := .pointer (some ⟨b, o' + off, none⟩)) ?_ ⟨rfl, Same.refl w⟩
  simp [execOp, ho, hv, run_fieldAt hf]
/-- A slice type's element type and its cells. -/
def elOf (P : Program) (t : TypeId) : Option (TypeId × Nat) :=
  match P.underlying t with
  | some (.slice e) => match P.info? e with
    | some i => some (e, i.size)
    | none => none
  | _ => none
theorem elOf_spec {t e : TypeId} {n : Nat} (h : elOf P t = some (e, n)) : P.underlying t = some (.slice e) ∧ ∃ i, P.info? e = some i ∧ i.size = n := by
  unfold elOf at h
  split at h
  · rename_i e' hu
    split at h
    · rename_i i hi
      simp only [Option.some.injEq, Prod.mk.injEq] at h
      obtain ⟨rfl, rfl⟩ := h
      exact ⟨hu, i, hi, rfl⟩
    · simp at h
  · simp at h
def rd {α : Type} [Inhabited α] (xs : List α) (i : Int) : α := xs.getD i.toNat default
theorem rd_get {α : Type} [Inhabited α] {xs : List α} {i : Int} (h0 : 0 ≤ i) (h1 : i < xs.length) : xs[i.toNat]? = some (rd xs i) := by
  unfold rd
  have h : i.toNat < xs.length := by omega
  simp [List.getElem?_eq_getElem h]
theorem q_index {α : Type} [Inhabited α] {kd : Kd α} {t e : TypeId} {x y : Operand} {xs : List α} {i : Int} {k : IntKind} {n : Nat} (ho : o.op = .indexAddr t x y) (he : elOf P t = some (e, n)) (hn : kd.n = n)
    (h0 : 0 ≤ i) (h1 : i < xs.length) : QS P [(x, SlcA kd xs), (y, EqA (.int k i))] o (PtrA (kd.c (rd xs i))) := fun a w bad _ nd => by
  obtain ⟨base, cap, hv, hcap, hnil, hx⟩ := nd.h0
  have hy : a.eval y = .int k i := nd.tl.h0
  obtain ⟨hu, inf, hi, hsz⟩ := elOf_spec he
  rcases hx with rfl | ⟨b, off, cs, rfl, hb, nb, hk, hc⟩
  · simp at h1; omega
  · subst hn
    have h4 := kd.cs_at xs i.toNat _ (rd_get h0 h1)
    refine Runs.value (v := .pointer (some ⟨b, off + i.toNat * kd.n, none⟩)) ?_ ⟨⟨b, off + i.toNat * kd.n, (cs.drop (i.toNat * kd.n)).take kd.n, rfl, hb, nb, ?_, (hc.drop _).take _⟩, Same.refl w⟩
    · simp [execOp, ho, hv, hy, Instr.indexAt, asIntOf, underlying, hu, h0, h1, sizeOf, typeInfo, hi, hsz, addr_add]
    · rw [← h4]; exact (hk.drop _).take _
theorem q_len {x : Operand} {t : TypeId} {α : Type} {kd : Kd α} {xs : List α} (ho : o.op = .call { callee := .builtin .len, args := #[x], argTypes := #[t] }) (he : (elOf P t).isSome = true) :
    QS P [(x, SlcA kd xs)] o (EqA (.int .i64 xs.length)) := fun a w bad _ nd => by
  obtain ⟨base, cap, hv, _⟩ := nd.h0
  obtain ⟨⟨e, n⟩, he⟩ := Option.isSome_iff_exists.1 he
  obtain ⟨hu, _⟩ := elOf_spec he
  refine Runs.value (v := .int .i64 xs.length) ?_ ⟨rfl, Same.refl w⟩
  simp [execOp, ho, resolve, invoke, builtin, Builtin.len_, hv, underlying, hu, goInt]
end
end Go.Abs
