/- The last words: sums within the range, structs of numbers, arrays, meeting ways. -/
import Derived.Test.YthmdmchmmgmblaaGreatA9
import Derived.Laws.StructEq
namespace Go.Abs
open Go Go.RowKit

/-- Within 64 bits. -/
def inR (x : Int) : Prop := -9223372036854775808 ≤ x ∧ x ≤ 9223372036854775807
instance (x : Int) : Decidable (inR x) := inferInstanceAs (Decidable (_ ∧ _))
theorem wrap_inR {x : Int} (h : inR x) : IntKind.i64.wrap x = x := by
  unfold inR at h
  simp only [IntKind.wrap, IntKind.bits, IntKind.signed, Bool.true_and, decide_eq_true_eq]
  split <;> simp_all <;> omega
section
variable {P : Program} {o : Oper}
theorem q_addR {xt yt : TypeId} {x y : Operand} {m n : Int} (ho : o.op = .binOp .add xt x y yt) (h : inR (m + n)) : QS P [(x, EqA (.int .i64 m)), (y, EqA (.int .i64 n))] o (EqA (.int .i64 (m + n))) := by
  have := q_int (P := P) (k := .i64) (m := m) (n := n) ho rfl
  rwa [wrap_inR h] at this
theorem q_subR {xt yt : TypeId} {x y : Operand} {m n : Int} (ho : o.op = .binOp .sub xt x y yt) (h : inR (m - n)) : QS P [(x, EqA (.int .i64 m)), (y, EqA (.int .i64 n))] o (EqA (.int .i64 (m - n))) := by
  have := q_int (P := P) (k := .i64) (m := m) (n := n) ho rfl
  rwa [wrap_inR h] at this
theorem q_mulR {xt yt : TypeId} {x y : Operand} {m n : Int} (ho : o.op = .binOp .mul xt x y yt) (h : inR (m * n)) : QS P [(x, EqA (.int .i64 m)), (y, EqA (.int .i64 n))] o (EqA (.int .i64 (m * n))) := by
  have := q_int (P := P) (k := .i64) (m := m) (n := n) ho rfl
  rwa [wrap_inR h] at this
theorem q_negR {t : TypeId} {x : Operand} {m : Int} (ho : o.op = .unOp .neg t x) (h : inR (0 - m)) : QS P [(x, EqA (.int .i64 m))] o (EqA (.int .i64 (0 - m))) := by
  have := q_neg (P := P) (k := .i64) (m := m) ho
  rwa [wrap_inR h] at this
def isB (P : Program) (t : TypeId) : Bool := match P.underlying t with | some .bool => true | _ => false
theorem isB_spec {t : TypeId} (h : isB P t = true) : P.underlying t = some .bool := by
  unfold isB at h; split at h <;> simp_all
theorem run_eqB {t : TypeId} {a b : Bool} {w : World} (h : isB P t = true) : (Op.equal t (.bool a) (.bool b)).run P w = .ok (a == b) w := run_equalIn_bool w 9999 t a b (isB_spec h)
theorem q_beq {xt yt : TypeId} {x y : Operand} {a b : Bool} (ho : o.op = .binOp .eql xt x y yt) (ht : isB P xt = true) : QS P [(x, EqA (.bool a)), (y, EqA (.bool b))] o (EqA (.bool (a == b))) := fun ac w bad _ nd => by
  have hx : ac.eval x = .bool a := nd.h0
  have hy : ac.eval y = .bool b := nd.tl.h0
  exact Runs.value (v := .bool (a == b)) (by simp [execOp, ho, hx, hy, eqGuard, binOp, run_eqB ht]) ⟨rfl, Same.refl w⟩
theorem q_bne {xt yt : TypeId} {x y : Operand} {a b : Bool} (ho : o.op = .binOp .neq xt x y yt) (ht : isB P xt = true) : QS P [(x, EqA (.bool a)), (y, EqA (.bool b))] o (EqA (.bool (a != b))) := fun ac w bad _ nd => by
  have hx : ac.eval x = .bool a := nd.h0
  have hy : ac.eval y = .bool b := nd.tl.h0
  exact Runs.value (v := .bool (a != b)) (by simp [execOp, ho, hx, hy, eqGuard, binOp, run_eqB ht, bne]) ⟨rfl, Same.refl w⟩
/-- A struct of n numbers. -/
def intStruct (P : Program) (t : TypeId) : Option Nat := match P.underlying t with
  | some (.struct fs) => bif !P.eqGuardType P.depth t && !P.stoodInHeld t && (fs.toList.zipIdx.all fun (f, i) => f.name != "_" && f.offset == i && (match P.underlying f.type with | some (.int .i64) => true | _ => false)) then some fs.size else none
  | _ => none
theorem run_eqInts {w : World} {d : Nat} : ∀ (fs : List Field) (j : Nat) (pm pn ms ns : List Int), pm.length = j → pn.length = j → ms.length = fs.length → ns.length = fs.length →
    ((fs.zipIdx j).all fun (f, i) => f.name != "_" && f.offset == i && (match P.underlying f.type with | some (.int .i64) => true | _ => false)) = true →
    (Op.eqFields (d + 1) ((pm ++ ms).map (Value.int .i64)).toArray ((pn ++ ns).map (Value.int .i64)).toArray fs).run P w = .ok (ms == ns) w
  | [], j, pm, pn, ms, ns, _, _, hm, hn, _ => by
    cases ms with
    | nil => cases ns with
      | nil => simp [Op.eqFields]
      | cons _ _ => simp at hn
    | cons _ _ => simp at hm
  | f :: fs, j, pm, pn, m :: ms, n :: ns, h1, h2, hm, hn, h => by
    simp only [List.zipIdx_cons, List.all_cons, Bool.and_eq_true, bne_iff_ne, beq_iff_eq] at h
    obtain ⟨⟨⟨hname, hoff⟩, hty⟩, hall⟩ := h
    have hu : P.underlying f.type = some (.int .i64) := by split at hty <;> simp_all
    have p1 : (part f.type ((pm ++ m :: ms).map (Value.int .i64)).toArray f.offset).run P w = .ok (.int .i64 m) w := by
      simp [part, isAgg, underlying, hu, hoff, ← h1]
    have p2 : (part f.type ((pn ++ n :: ns).map (Value.int .i64)).toArray f.offset).run P w = .ok (.int .i64 n) w := by
      simp [part, isAgg, underlying, hu, hoff, ← h2]
    have ih := run_eqInts (w := w) (d := d) fs (j + 1) (pm ++ [m]) (pn ++ [n]) ms ns (by simp [h1]) (by simp [h2]) (by simpa using hm) (by simpa using hn) hall
    simp only [List.append_assoc, List.singleton_append] at ih
    simp only [Op.eqFields, hname, ne_eq, not_false_eq_true, if_true, Sem.run_bind, p1, p2, Result.andThen_ok, run_equalIn_int w d f.type .i64 .i64 m n hu]
    by_cases hmn : m = n
    · subst hmn
      rw [show ((m :: ms) == (m :: ns)) = (ms == ns) by simp]
      simp only [beq_self_eq_true, Bool.not_true, Bool.false_eq_true, if_false]
      exact ih
    · rw [show ((m :: ms) == (n :: ns)) = false by simp [hmn]]
      simp [hmn]
  | _ :: _, _, _, _, [], _, _, _, h, _, _ => by simp at h
  | _ :: _, _, _, _, _ :: _, [], _, _, _, h, _ => by simp at h
theorem AggA.ints {ms : List Int} {w : World} {bad : Bad} {v : Value} (h : (AggA (ms.map fun m => EqA (.int .i64 m))).P w bad v) : v = .agg (ms.map (Value.int .i64)).toArray := by
  obtain ⟨cs, e, k⟩ := h
  subst e
  congr 1
  congr 1
  induction ms generalizing cs with
  | nil => cases cs with
    | nil => rfl
    | cons _ _ => exact k.elim
  | cons m ms ih => cases cs with
    | nil => exact k.elim
    | cons c cs => have hc : c = .int .i64 m := k.1; rw [List.map_cons, ← ih cs k.2, hc]
theorem run_eqStruct {t : TypeId} {ms ns : List Int} {k : Nat} {w : World} (h : intStruct P t = some k) (hm : ms.length = k) (hn : ns.length = k) : (Op.equal t (.agg (ms.map (Value.int .i64)).toArray) (.agg (ns.map (Value.int .i64)).toArray)).run P w = .ok (ms == ns) w := by
  unfold intStruct at h
  split at h
  · rename_i fs hu
    cases hb : (!P.eqGuardType P.depth t && !P.stoodInHeld t && (fs.toList.zipIdx.all fun (f, i) => f.name != "_" && f.offset == i && (match P.underlying f.type with | some (.int .i64) => true | _ => false))) with
    | false => rw [hb] at h; cases h
    | true =>
      rw [hb] at h
      simp only [cond_true, Option.some.injEq] at h
      simp only [Bool.and_eq_true, Bool.not_eq_true'] at hb
      have hf : P.fieldsOf t = fs := by simp [Program.fieldsOf, hu]
      have := run_eqInts (P := P) (w := w) (d := 9998) fs.toList 0 [] [] ms ns rfl rfl (by simp [hm, h]) (by simp [hn, h]) hb.2
      have h2 := run_equalIn_struct (P := P) w 9999 t (ms.map (Value.int .i64)).toArray (ns.map (Value.int .i64)).toArray (by rw [hf]; exact hu) hb.1.2
      rw [hf] at h2
      exact h2.trans (by simpa using this)
  · cases h
theorem intStruct_guard {t : TypeId} {k : Nat} (h : intStruct P t = some k) : P.eqGuardType P.depth t = false := by
  unfold intStruct at h
  split at h
  · rename_i fs hu
    cases hb : P.eqGuardType P.depth t with
    | false => rfl
    | true => rw [hb] at h; simp at h
  · cases h
theorem q_eqI {xt yt : TypeId} {x y : Operand} {ms ns : List Int} {k : Nat} (ho : o.op = .binOp .eql xt x y yt) (h : intStruct P xt = some k) (hm : ms.length = k := by rfl) (hn : ns.length = k := by rfl) :
    QS P [(x, AggA (ms.map fun m => EqA (.int .i64 m))), (y, AggA (ns.map fun m => EqA (.int .i64 m)))] o (EqA (.bool (ms == ns))) := fun ac w bad _ nd => by
  have hx := AggA.ints nd.h0
  have hy := AggA.ints nd.tl.h0
  exact Runs.value (v := .bool (ms == ns)) (by simp only [execOp, ho, hx, hy, eqGuard, binOp, Sem.run_bind, run_eqStruct h hm hn, Sem.run_pure, Result.andThen_ok, Bool.not_true, Bool.false_eq_true, if_false, run_program, intStruct_guard h, Bool.not_false, if_true]) ⟨rfl, Same.refl w⟩
theorem q_eqIn {xt yt : TypeId} {x y : Operand} {ms ns : List Int} {k : Nat} (ho : o.op = .binOp .neq xt x y yt) (h : intStruct P xt = some k) (hm : ms.length = k := by rfl) (hn : ns.length = k := by rfl) :
    QS P [(x, AggA (ms.map fun m => EqA (.int .i64 m))), (y, AggA (ns.map fun m => EqA (.int .i64 m)))] o (EqA (.bool (!(ms == ns)))) := fun ac w bad _ nd => by
  have hx := AggA.ints nd.h0
  have hy := AggA.ints nd.tl.h0
  exact Runs.value (v := .bool (!(ms == ns))) (by simp only [execOp, ho, hx, hy, eqGuard, binOp, Sem.run_bind, run_eqStruct h hm hn, Sem.run_pure, Result.andThen_ok, Bool.not_true, Bool.false_eq_true, if_false, run_program, intStruct_guard h, Bool.not_false, if_true]) ⟨rfl, Same.refl w⟩
/-- An empty literal. -/
theorem q_lit0 {t e : TypeId} {n : Nat} (ho : o.op = .buildSlice t 0 #[]) (he : elOf P t = some (e, n)) (hg : growOk P e n = true) : QS P [] o ZslA := fun a w bad hlt nd => by
  have hr := run_lit (P := P) (w := w) he hg (vs := []) (len := 0) rfl (by simp) (by simp)
  refine Runs.value (exec_lit (xs := []) (ps := []) ho rfl hr) ⟨⟨_, rfl⟩, Same.alloc w _⟩
/-- Where element i of an array lies (an element with cells). -/
def arOff (P : Program) (t : TypeId) (i : Nat) : Option Nat := match P.underlying t with
  | some (.array n e) => match P.info? e with
    | some inf => if i < n ∧ inf.size ≠ 0 then some (i * inf.size) else none
    | none => none
  | _ => none
theorem q_indexArr {t : TypeId} {x : Operand} {k : IntKind} {i : Int} {j off : Nat} {l l' : List Asn} {y : Operand} (ho : o.op = .indexAddr t x y) (hf : arOff P t j = some off) (hi : i = (j : Int)) (hl : l.drop off = l') : QS P [(x, PtrA l), (y, EqA (.int k i))] o (PtrA l') := fun a w bad _ nd => by
  obtain ⟨b, o', cs, hv, hb, nb, hk, hc⟩ := nd.h0
  have hy : a.eval y = .int k i := nd.tl.h0
  subst hl hi
  refine Runs.value (v := .pointer (some ⟨b, o' + off, none⟩)) ?_ ⟨⟨b, o' + off, cs.drop off, rfl, hb, nb, hk.drop off, hc.drop off⟩, Same.refl w⟩
  unfold arOff at hf
  split at hf
  · rename_i n e hu
    split at hf
    · rename_i inf hi
      split at hf
      · rename_i hlt
        simp only [Option.some.injEq] at hf
        subst hf
        simp [execOp, ho, hv, hy, Instr.indexAt, asIntOf, underlying, hu, hlt.1, sizeOf, typeInfo, hi, addr_add, Instr.sureAddr]
      · cases hf
    · cases hf
  · cases hf
theorem q_indexArrP {t : TypeId} {x : Operand} {k : IntKind} {i : Int} {j off b o' : Nat} {y : Operand} (ho : o.op = .indexAddr t x y) (hf : arOff P t j = some off) (hi : i = (j : Int)) : QS P [(x, EqA (.pointer (some ⟨b, o', none⟩))), (y, EqA (.int k i))] o (EqA (.pointer (some ⟨b, o' + off, none⟩))) := fun a w bad _ nd => by
  have hv : a.eval x = .pointer (some ⟨b, o', none⟩) := nd.h0
  have hy : a.eval y = .int k i := nd.tl.h0
  subst hi
  refine Runs.value (v := .pointer (some ⟨b, o' + off, none⟩)) ?_ ⟨rfl, Same.refl w⟩
  unfold arOff at hf
  split at hf
  · rename_i n e hu
    split at hf
    · rename_i inf hi
      split at hf
      · rename_i hlt
        simp only [Option.some.injEq] at hf
        subst hf
        simp [execOp, ho, hv, hy, Instr.indexAt, asIntOf, underlying, hu, hlt.1, sizeOf, typeInfo, hi, addr_add, Instr.sureAddr]
      · cases hf
    · cases hf
  · cases hf
theorem QS.args {xs : List Operand} {as bs : List Asn} {A : Asn} (h : QS P (xs.zip bs) o A) (i : ImpL as bs) : QS P (xs.zip as) o A := fun a w bad hlt nd => h a w bad hlt (Opd.imps i nd)
theorem WS.args {xs : List Operand} {as bs : List Asn} {Oc : List Ent} {R : List Ent → Asn → Prop} (h : WS P Oc (xs.zip bs) o R) (i : ImpL as bs) : WS P Oc (xs.zip as) o R := fun fg a w s nd => h fg a w s (Opd.imps i nd)
end
/-- A slice of which it is told whether it is nil. -/
def OptA {α : Type} (kd : Kd α) (o : Option (List α)) : Asn := ⟨fun w bad v => match o with | none => v = .slice none 0 0 | some l => (SlcA kd l).P w bad v,
  fun {w bad w' bad' v} h k => by cases o with
    | none => exact k
    | some l => exact (SlcA kd l).ext h k,
  true, fun _ w bad v k => by cases o with
    | none => have k : v = .slice none 0 0 := k; subst k; rfl
    | some l => exact (SlcA kd l).one rfl k⟩
theorem Imp.optN {α : Type} (kd : Kd α) : Imp (EqA (.slice none 0 0)) (OptA kd (none : Option (List α))) := fun _ _ _ h => h
theorem Imp.optS {α : Type} (kd : Kd α) (l : List α) : Imp (SlcA kd l) (OptA kd (some l)) := fun _ _ _ h => h
theorem Imp.ofN {α : Type} (kd : Kd α) : Imp (OptA kd (none : Option (List α))) (EqA (.slice none 0 0)) := fun _ _ _ h => h
theorem Imp.ofS {α : Type} (kd : Kd α) (l : List α) : Imp (OptA kd (some l)) (SlcA kd l) := fun _ _ _ h => h
section
variable {c : Cx} {env : Env} {O Or : List Ent} {Q : Post} {code : Code}
theorem StTo.boxImp {b : Nat} {l l' : List Asn} (is : List Nat) (hp : pick is O = some ([BoxE b l], Or)) (h : ImpL l l') : StTo c env O env (BoxE b l' :: Or) := fun a w s => by
  have s1 := s.perm (perm_pick hp)
  refine ⟨s1.defers, s1.size, ⟨s1.sat.nodup, s1.sat.out, s1.sat.lt, fun E hE => ?_⟩, ⟨s1.frame.os, s1.frame.tape, s1.frame.output, s1.frame.size, s1.frame.keep⟩, s1.env⟩
  rcases List.mem_cons.1 hE with rfl | hE
  · obtain ⟨cs, el, hh, hk⟩ := s1.sat.holds (BoxE b l) (by simp)
    exact ⟨cs, el, hh, h.all2 hk⟩
  · exact s1.sat.holds E (by simp [hE])
theorem W.jn0 {Γ R : Type} {rest : Option R} {body : Option R → Option R} {r : R} (E : Γ → Env) (F : Γ → List Ent) (h : jn rest body = some r)
    (h1 : ∀ g, rest = some r → QN c (E g) (F g) Q) (h2 : ∀ rest', (∀ g, rest' = some r → QN c (E g) (F g) Q) → body rest' = some r → W c env O code Q) : W c env O code Q := h2 rest h1 h
theorem W.jn1 {Γ A R : Type} {rest : A → Option R} {body : (A → Option R) → Option R} {r : R} (E : Γ → A → Env) (F : Γ → A → List Ent) (h : jn rest body = some r)
    (h1 : ∀ g a, rest a = some r → QN c (E g a) (F g a) Q) (h2 : ∀ rest', (∀ g a, rest' a = some r → QN c (E g a) (F g a) Q) → body rest' = some r → W c env O code Q) : W c env O code Q := h2 rest h1 h
theorem W.jn2 {Γ A B R : Type} {rest : A → B → Option R} {body : (A → B → Option R) → Option R} {r : R} (E : Γ → A → B → Env) (F : Γ → A → B → List Ent) (h : jn rest body = some r)
    (h1 : ∀ g a b, rest a b = some r → QN c (E g a b) (F g a b) Q) (h2 : ∀ rest', (∀ g a b, rest' a b = some r → QN c (E g a b) (F g a b) Q) → body rest' = some r → W c env O code Q) : W c env O code Q := h2 rest h1 h
theorem W.jn3 {Γ A B D R : Type} {rest : A → B → D → Option R} {body : (A → B → D → Option R) → Option R} {r : R} (E : Γ → A → B → D → Env) (F : Γ → A → B → D → List Ent) (h : jn rest body = some r)
    (h1 : ∀ g a b d, rest a b d = some r → QN c (E g a b d) (F g a b d) Q) (h2 : ∀ rest', (∀ g a b d, rest' a b d = some r → QN c (E g a b d) (F g a b d) Q) → body rest' = some r → W c env O code Q) : W c env O code Q := h2 rest h1 h
theorem W.jn4 {Γ A B D V R : Type} {rest : A → B → D → V → Option R} {body : (A → B → D → V → Option R) → Option R} {r : R} (E : Γ → A → B → D → V → Env) (F : Γ → A → B → D → V → List Ent) (h : jn rest body = some r)
    (h1 : ∀ g a b d v, rest a b d v = some r → QN c (E g a b d v) (F g a b d v) Q) (h2 : ∀ rest', (∀ g a b d v, rest' a b d v = some r → QN c (E g a b d v) (F g a b d v) Q) → body rest' = some r → W c env O code Q) : W c env O code Q := h2 rest h1 h
end
theorem leB {n m : Nat} (h : Nat.ble n m = true) : n ≤ m := Nat.le_of_ble_eq_true h
theorem Needs.s {env : Env} (t : Nat) {A : Asn} {r} (h : look env t = some A) (k : Needs env r) : Needs env ((.tmp t, A) :: r) := Needs.t h k
theorem NeedsS.s {env : Env} (t : Nat) {A : Asn} {r} (h : look env t = some A) (k : NeedsS env r) : NeedsS env ((.tmp t, A) :: r) := NeedsS.t h k
end Go.Abs
