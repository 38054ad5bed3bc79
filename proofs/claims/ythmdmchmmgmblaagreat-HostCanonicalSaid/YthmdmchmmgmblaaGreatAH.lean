/- Equality of structs whose cells are numbers and truth values, to whatever depth. -/
import Derived.Test.YthmdmchmmgmblaaGreatAG
namespace Go.Abs
open Go Go.RowKit

inductive Lf where
  | i (x : Int)
  | b (x : Bool)
  deriving DecidableEq
def Lf.v : Lf → Value
  | .i x => .int .i64 x
  | .b x => .bool x
def Lf.k : Lf → Bool
  | .i _ => true
  | .b _ => false
def Lf.a : Lf → Asn
  | .i x => EqA (.int .i64 x)
  | .b x => EqA (.bool x)
variable {P : Program}
def flatKs (P : Program) (K : TypeId → Option (List Bool)) : List Field → Nat → Option (List Bool)
  | [], _ => some []
  | f :: fs, off => bif f.name != "_" && f.offset == off then (K f.type).bind fun l => bif (P.info? f.type).map (·.size) == some l.length then (flatKs P K fs (off + l.length)).map (l ++ ·) else none else none
def flatK (P : Program) : Nat → TypeId → Option (List Bool)
  | 0, _ => none
  | d + 1, t => match P.underlying t with
    | some (.int .i64) => some [true]
    | some .bool => some [false]
    | some (.struct fs) => bif P.stoodInHeld t then none else flatKs P (flatK P d) fs.toList 0
    | _ => none
def valF (P : Program) (t : TypeId) (xs : List Lf) : Value := match P.underlying t with
  | some (.struct _) => .agg (xs.map Lf.v).toArray
  | _ => (xs.map Lf.v).headD undef
theorem lf_one {xs : List Lf} (h : xs.map Lf.k = [true]) : ∃ m, xs = [.i m] := by
  match xs, h with
  | [.i m], _ => exact ⟨m, rfl⟩
  | [.b _], h => simp [Lf.k] at h
  | [], h => simp at h
  | _ :: _ :: _, h => simp at h
theorem lf_oneB {xs : List Lf} (h : xs.map Lf.k = [false]) : ∃ m, xs = [.b m] := by
  match xs, h with
  | [.b m], _ => exact ⟨m, rfl⟩
  | [.i _], h => simp [Lf.k] at h
  | [], h => simp at h
  | _ :: _ :: _, h => simp at h
theorem flatK_len {n : Nat} {t : TypeId} {ks : List Bool} (h : flatK P n t = some ks) (hs : ∀ fs, P.underlying t ≠ some (.struct fs)) : ks = [true] ∧ P.underlying t = some (.int .i64) ∨ ks = [false] ∧ P.underlying t = some .bool := by
  cases n with
  | zero => cases h
  | succ n =>
    unfold flatK at h
    split at h
    · rename_i hu; exact .inl ⟨by simpa using h.symm, hu⟩
    · rename_i hu; exact .inr ⟨by simpa using h.symm, hu⟩
    · rename_i fs hu; exact absurd hu (hs fs)
    · cases h
/-- A part of the cells, as a value of its type. -/
theorem part_flat {n : Nat} {t : TypeId} {ks : List Bool} {pm xs rest : List Lf} {w : World} (h : flatK P n t = some ks) (hi : (P.info? t).map (·.size) = some ks.length) (hx : xs.map Lf.k = ks) :
    (part t ((pm ++ (xs ++ rest)).map Lf.v).toArray pm.length).run P w = .ok (valF P t xs) w := by
  obtain ⟨i, hi, hsz⟩ := Option.map_eq_some_iff.1 hi
  have hl : xs.length = ks.length := by rw [← hx, List.length_map]
  cases hu : P.underlying t with
  | none =>
    rcases flatK_len h (fun fs e => by rw [hu] at e; cases e) with ⟨_, e⟩ | ⟨_, e⟩ <;> (rw [hu] at e; cases e)
  | some kd =>
    by_cases hst : ∃ fs, kd = .struct fs
    · obtain ⟨fs, rfl⟩ := hst
      have e : (((pm ++ (xs ++ rest)).map Lf.v).toArray.extract pm.length (pm.length + i.size)) = (xs.map Lf.v).toArray := by
        apply Array.ext'
        rw [Array.toList_extract, hsz, ← hl]
        simp [List.extract]
      have hc : P.cellsOf t = i.size := by simp [Program.cellsOf, hi]
      simp only [part, isAgg, run_underlying hu, run_sizeOf w hi, valF, hu, Sem.run_bind, Result.andThen_ok, Sem.run_pure, if_true]
      rw [hc, e]
    · rcases flatK_len h (fun fs e => hst ⟨fs, by rw [hu] at e; exact Option.some.inj e⟩) with ⟨e1, e2⟩ | ⟨e1, e2⟩
      · rw [e1] at hx
        obtain ⟨m, rfl⟩ := lf_one hx
        rw [e2] at hu
        cases hu
        simp [part, isAgg, run_underlying e2, valF, e2, Lf.v]
      · rw [e1] at hx
        obtain ⟨m, rfl⟩ := lf_oneB hx
        rw [e2] at hu
        cases hu
        simp [part, isAgg, run_underlying e2, valF, e2, Lf.v]
theorem beq_append {a b c d : List Lf} (h : a.length = b.length) : (a ++ c == b ++ d) = ((a == b) && (c == d)) := by
  rw [Bool.eq_iff_iff, Bool.and_eq_true, beq_iff_eq, beq_iff_eq, beq_iff_eq]
  exact ⟨fun e => List.append_inj e h, fun ⟨e1, e2⟩ => by rw [e1, e2]⟩
theorem run_eqFieldsF {K : TypeId → Option (List Bool)} {dd : Nat} {w : World} (hK : ∃ n, K = flatK P n)
    (IH : ∀ t ks, K t = some ks → ∀ xs ys : List Lf, xs.map Lf.k = ks → ys.map Lf.k = ks → (Op.equalIn dd t (valF P t xs) (valF P t ys)).run P w = .ok (xs == ys) w) :
    ∀ (fs : List Field) (ks : List Bool) (pm pn xs ys : List Lf), pm.length = pn.length → flatKs P K fs pm.length = some ks → xs.map Lf.k = ks → ys.map Lf.k = ks →
      (Op.eqFields dd ((pm ++ xs).map Lf.v).toArray ((pn ++ ys).map Lf.v).toArray fs).run P w = .ok (xs == ys) w
  | [], ks, pm, pn, xs, ys, hp, h, hx, hy => by
    have e : ks = [] := by simpa [flatKs] using h.symm
    subst e
    have e1 : xs = [] := by simpa using hx
    have e2 : ys = [] := by simpa using hy
    subst e1; subst e2
    simp [Op.eqFields]
  | f :: fs, ks, pm, pn, xs, ys, hp, h, hx, hy => by
    obtain ⟨n, rfl⟩ := hK
    unfold flatKs at h
    cases hb : (f.name != "_" && f.offset == pm.length) with
    | false => rw [hb] at h; cases h
    | true =>
      rw [hb, cond_true] at h
      rw [Bool.and_eq_true, bne_iff_ne, beq_iff_eq] at hb
      obtain ⟨hname, hoff⟩ := hb
      obtain ⟨l, hl, h⟩ := Option.bind_eq_some_iff.1 h
      cases hi : ((P.info? f.type).map (·.size) == some l.length) with
      | false => rw [hi] at h; cases h
      | true =>
        rw [hi, cond_true] at h
        obtain ⟨l2, hl2, rfl⟩ := Option.map_eq_some_iff.1 h
        have hi' : (P.info? f.type).map (·.size) = some l.length := by simpa using hi
        obtain ⟨x1, x2, rfl, a1, a2⟩ := List.map_eq_append_iff.1 hx
        obtain ⟨y1, y2, rfl, b1, b2⟩ := List.map_eq_append_iff.1 hy
        have lx : x1.length = l.length := by rw [← a1, List.length_map]
        have ly : y1.length = l.length := by rw [← b1, List.length_map]
        have p1 := part_flat (P := P) (w := w) (pm := pm) (rest := x2) hl hi' a1
        have p2 := part_flat (P := P) (w := w) (pm := pn) (rest := y2) hl hi' b1
        have q := IH f.type l hl x1 y1 a1 b1
        have r := run_eqFieldsF ⟨n, rfl⟩ IH fs l2 (pm ++ x1) (pn ++ y1) x2 y2 (by simp [hp, lx, ly]) (by rw [List.length_append, lx]; exact hl2) a2 b2
        rw [List.append_assoc, List.append_assoc] at r
        rw [← hp] at p2
        rw [beq_append (by rw [lx, ly])]
        simp only [Op.eqFields, hname, hoff, ne_eq, not_false_eq_true, if_true, Sem.run_bind, p1, p2, q, Result.andThen_ok]
        cases hxy : (x1 == y1) with
        | true => simpa using r
        | false => simp
theorem run_eqF {w : World} : ∀ (n d : Nat) (t : TypeId) (ks : List Bool), n ≤ d → flatK P n t = some ks → ∀ xs ys : List Lf, xs.map Lf.k = ks → ys.map Lf.k = ks → (Op.equalIn d t (valF P t xs) (valF P t ys)).run P w = .ok (xs == ys) w
  | 0, _, _, _, _, h, _, _, _, _ => by cases h
  | n + 1, 0, _, _, hd, _, _, _, _, _ => by omega
  | n + 1, d + 1, t, ks, hd, h, xs, ys, hx, hy => by
    unfold flatK at h
    split at h
    · rename_i hu
      cases h
      obtain ⟨a, rfl⟩ := lf_one hx
      obtain ⟨b, rfl⟩ := lf_one hy
      have := run_equalIn_int w d t .i64 .i64 a b hu
      simp only [valF, hu, List.map_cons, List.map_nil, Lf.v, List.headD_cons]
      rw [this]
      by_cases e : a = b
      · subst e; simp
      · have h1 : (a == b) = false := by simpa using e
        have h2 : ([Lf.i a] == [Lf.i b]) = false := by
          rw [beq_eq_false_iff_ne]
          intro q; injection q with q _; injection q with q; exact e q
        rw [h1, h2]
    · rename_i hu
      cases h
      obtain ⟨a, rfl⟩ := lf_oneB hx
      obtain ⟨b, rfl⟩ := lf_oneB hy
      have := run_equalIn_bool w d t a b hu
      simp only [valF, hu, List.map_cons, List.map_nil, Lf.v, List.headD_cons]
      rw [this]
      cases a <;> cases b <;> rfl
    · rename_i fs hu
      cases hs : P.stoodInHeld t with
      | true => rw [hs] at h; cases h
      | false =>
        rw [hs, cond_false] at h
        have hf : P.fieldsOf t = fs := by simp [Program.fieldsOf, hu]
        have h2 := run_equalIn_struct (P := P) w d t (xs.map Lf.v).toArray (ys.map Lf.v).toArray (by rw [hf]; exact hu) hs
        rw [hf] at h2
        simp only [valF, hu]
        rw [h2]
        have := run_eqFieldsF (P := P) (dd := d) (w := w) ⟨n, rfl⟩ (fun t' ks' h' xs' ys' hx' hy' => run_eqF n d t' ks' (by omega) h' xs' ys' hx' hy') fs.toList ks [] [] xs ys rfl h hx hy
        simpa using this
    · cases h
def flatSt (P : Program) (t : TypeId) : Option (List Bool) := match P.underlying t with
  | some (.struct _) => bif P.eqGuardType P.depth t then none else flatK P 9 t
  | _ => none
theorem AggA.lfs {ms : List Lf} {w : World} {bad : Bad} {v : Value} (h : (AggA (ms.map Lf.a)).P w bad v) : v = .agg (ms.map Lf.v).toArray := by
  obtain ⟨cs, e, k⟩ := h
  subst e
  congr 1
  congr 1
  induction ms generalizing cs with
  | nil => cases cs with
    | nil => rfl
    | cons _ _ => exact k.elim
  | cons m ms ih => cases cs with
    | nil => exact k.elim
    | cons c cs =>
      have hc : c = m.v := by cases m <;> exact k.1
      rw [List.map_cons, ← ih cs k.2, hc]
theorem flatSt_spec {t : TypeId} {ks : List Bool} (h : flatSt P t = some ks) : P.eqGuardType P.depth t = false ∧ ∀ (w : World) (xs ys : List Lf), xs.map Lf.k = ks → ys.map Lf.k = ks → (Op.equal t (.agg (xs.map Lf.v).toArray) (.agg (ys.map Lf.v).toArray)).run P w = .ok (xs == ys) w := by
  unfold flatSt at h
  split at h
  · rename_i fs hu
    cases hg : P.eqGuardType P.depth t with
    | true => rw [hg] at h; cases h
    | false =>
      rw [hg, cond_false] at h
      refine ⟨rfl, fun w xs ys hx hy => ?_⟩
      have := run_eqF (P := P) (w := w) 9 10000 t ks (by omega) h xs ys hx hy
      simp only [valF, hu] at this
      exact this
  · cases h
theorem q_eqF {o : Oper} {xt yt : TypeId} {x y : Operand} {ms ns : List Lf} {ks : List Bool} (ho : o.op = .binOp .eql xt x y yt) (h : flatSt P xt = some ks) (hm : ms.map Lf.k = ks := by rfl) (hn : ns.map Lf.k = ks := by rfl) :
    QS P [(x, AggA (ms.map Lf.a)), (y, AggA (ns.map Lf.a))] o (EqA (.bool (ms == ns))) := fun ac w bad _ nd => by
  have hx := AggA.lfs nd.h0
  have hy := AggA.lfs nd.tl.h0
  exact Runs.value (v := .bool (ms == ns)) (by simp only [execOp, ho, hx, hy, eqGuard, binOp, Sem.run_bind, (flatSt_spec h).2 w ms ns hm hn, Sem.run_pure, Result.andThen_ok, Bool.not_true, Bool.false_eq_true, if_false, run_program, (flatSt_spec h).1, Bool.not_false, if_true]) ⟨rfl, Same.refl w⟩
theorem q_eqFn {o : Oper} {xt yt : TypeId} {x y : Operand} {ms ns : List Lf} {ks : List Bool} (ho : o.op = .binOp .neq xt x y yt) (h : flatSt P xt = some ks) (hm : ms.map Lf.k = ks := by rfl) (hn : ns.map Lf.k = ks := by rfl) :
    QS P [(x, AggA (ms.map Lf.a)), (y, AggA (ns.map Lf.a))] o (EqA (.bool (!(ms == ns)))) := fun ac w bad _ nd => by
  have hx := AggA.lfs nd.h0
  have hy := AggA.lfs nd.tl.h0
  exact Runs.value (v := .bool (!(ms == ns))) (by simp only [execOp, ho, hx, hy, eqGuard, binOp, Sem.run_bind, (flatSt_spec h).2 w ms ns hm hn, Sem.run_pure, Result.andThen_ok, Bool.not_true, Bool.false_eq_true, if_false, run_program, (flatSt_spec h).1, Bool.not_false, if_true]) ⟨rfl, Same.refl w⟩
/-! ### Closures over variables that they write -/
/-- A closure of the function g; what is told of the variables that it holds. -/
def CloA (g : FuncId) (L : List Asn) : Asn :=
  ⟨fun w bad v => ∃ fs, v = .func (.func g) #[] (List.toArray fs) ∧ All2 w bad L fs, fun h ⟨fs, e, k⟩ => ⟨fs, e, k.ext h⟩, true, fun _ _ _ v ⟨_, e, _⟩ => by subst e; rfl⟩
theorem q_makeClo {o : Oper} {g : FuncId} {xs : List Operand} {L : List Asn} (ho : o.op = .makeFunc (.func g) #[] xs.toArray) (hl : xs.length = L.length) : QS P (xs.zip L) o (CloA g L) := fun a w bad _ nd => by
  have ha := Opd.args nd hl
  refine Runs.value (v := .func (.func g) #[] (xs.map a.eval).toArray) ?_ ⟨⟨_, rfl, ha⟩, Same.refl w⟩
  simp [execOp, ho, Instr.makeFunc]
theorem w_callClo {o : Oper} {g : FuncId} {f : Operand} {xs : List Operand} {ts : Array TypeId} {as L : List Asn} {Oc : List Ent} {R : List Ent → Asn → Prop} (ho : o.op = .call { callee := .value f, args := xs.toArray, argTypes := ts })
    (hf : callable P g = true) (hc : Con P g Oc (as ++ L) R) (hl : xs.length = as.length) : WS P Oc ((f, CloA g L) :: xs.zip as) o R := fun fg a w s nd => by
  obtain ⟨fs, hv, hL⟩ := nd.h0
  have ha := Opd.args nd.tl hl
  have hex : (execOp a.eval o).run P w = .ok (.enter g (xs.map a.eval ++ fs).toArray) w := by
    simp [execOp, ho, resolve, hv, Deferred.ofValue, invoke, run_callFunc hf]
  refine Runs.enter hex ((hc w fg (xs.map a.eval ++ fs) s (ha.append hL)).mono ?_)
  rintro e w' ⟨v, O', B, he, r, s', f, hv⟩
  exact ⟨v, he, O', B, r, s', f, hv⟩
/-- A table that a call hands back, read only from then on. -/
theorem Con.freeT {f : FuncId} {as : List Asn} {α : Type} {e e2 : TypeId} {kd : Kd α} {zss : List (List α)} (h : Con P f [] as (RTab e e2 kd zss)) : Con P f [] as (RA (SlcA (kSl kd) zss)) := fun w fg vs s k => (h w fg vs s k).mono fun en w' ⟨v, O', A, he, ⟨g, hO, hA⟩, s', fr, hv⟩ => by
  subst hO hA
  obtain ⟨rfl, _⟩ := hv
  have hr := TbE.ro (Or := []) s'
  exact ⟨_, [], _, he, ⟨rfl, rfl⟩, ⟨by simp [keys], by simp [keys], s'.lt, by simp⟩, ⟨fr.os, fr.tape, fr.output, fr.size, fun b hb nb => ⟨(fr.keep b hb nb).1, by simp [keys]⟩⟩, hr⟩
/-- A new slice that is read only from then on. -/
theorem WS.free {o : Oper} {α : Type} {nd : List (Operand × Asn)} {Oc : List Ent} {e : TypeId} {kd : Kd α} {zs : List α} (h : WS P Oc nd o (RApp e kd zs)) : WS P Oc nd o (fun O' A => O' = [] ∧ A = SlcA kd zs) := fun fg a w s n => by
  refine (h fg a w s n).mono ?_
  rintro v w' ⟨O', A, ⟨v', rfl, rfl⟩, s', fr, hv⟩
  obtain ⟨rfl, _⟩ := hv
  have hr := SlE.ro (O := []) s'
  exact ⟨[], _, ⟨rfl, rfl⟩, ⟨by simp [keys], by simp [keys], s'.lt, by simp⟩, ⟨fr.os, fr.tape, fr.output, fr.size, fun b hb nb => ⟨(fr.keep b hb nb).1, by simp [keys]⟩⟩, hr⟩
section
variable {c : Cx} {env : Env} {O : List Ent} {code : Code} {Q : Post}
theorem W.jn5 {Γ A B D V X R : Type} {rest : A → B → D → V → X → Option R} {body : (A → B → D → V → X → Option R) → Option R} {r : R} (E : Γ → A → B → D → V → X → Env) (F : Γ → A → B → D → V → X → List Ent) (h : jn rest body = some r)
    (h1 : ∀ g a b d v x, rest a b d v x = some r → QN c (E g a b d v x) (F g a b d v x) Q) (h2 : ∀ rest', (∀ g a b d v x, rest' a b d v x = some r → QN c (E g a b d v x) (F g a b d v x) Q) → body rest' = some r → W c env O code Q) : W c env O code Q := h2 rest h1 h
theorem W.jn6 {Γ A B D V X Y R : Type} {rest : A → B → D → V → X → Y → Option R} {body : (A → B → D → V → X → Y → Option R) → Option R} {r : R} (E : Γ → A → B → D → V → X → Y → Env) (F : Γ → A → B → D → V → X → Y → List Ent) (h : jn rest body = some r)
    (h1 : ∀ g a b d v x y, rest a b d v x y = some r → QN c (E g a b d v x y) (F g a b d v x y) Q) (h2 : ∀ rest', (∀ g a b d v x y, rest' a b d v x y = some r → QN c (E g a b d v x y) (F g a b d v x y) Q) → body rest' = some r → W c env O code Q) : W c env O code Q := h2 rest h1 h
end
/-- What a call hands over of its own, read only from then on. -/
theorem Con.lend {f : FuncId} {as : List Asn} {R : List Ent → Asn → Prop} {B : Asn} (h : Con P f [] as R) (hl : ∀ fg O' A, R O' A → Lend fg O' A B) : Con P f [] as (RA B) := fun w fg vs s k => (h w fg vs s k).mono fun en w' ⟨v, O', A, he, hR, s', fr, hv⟩ => by
  have hr := hl fg O' A hR w' v s' hv
  exact ⟨_, [], _, he, ⟨rfl, rfl⟩, ⟨by simp [keys], by simp [keys], s'.lt, by simp⟩, ⟨fr.os, fr.tape, fr.output, fr.size, fun b hb nb => ⟨(fr.keep b hb nb).1, by simp [keys]⟩⟩, by rw [badOf_nil]; exact hr⟩
/-- A slice that a struct holds is written no more. -/
theorem StTo.aggFreeze {c : Cx} {env : Env} {O Or : List Ent} {α : Type} {e : TypeId} {v : Value} {kd : Kd α} {xs : List α} {L : List Asn} (is : List Nat) (t i : Nat) (hp : pick is O = some ([SlE e v kd xs], Or)) (hl : look env t = some (AggA L)) (hi : L[i]? = some (HdA v)) :
    StTo c env O ((t, AggA (L.set i (SlcA kd xs))) :: env) Or := fun a w s => by
  have s1 := s.perm (perm_pick hp)
  have h := SlE.ro (O := Or) s1.sat
  have s2 : St c env Or a w := s1.drop
  obtain ⟨cs, e1, hk⟩ := s2.env t _ hl
  obtain ⟨u, hu1, hu2⟩ := All2.get hk hi
  have hu3 : u = v := hu2.1
  subst hu3
  exact s2.add ⟨cs, e1, All2.set hk hu1 h⟩
theorem q_nilCheckE {o : Oper} {x : Operand} {v : Value} {n fo : Nat} {i : Int} (ho : o.op = .nilCheck x) : QS P [(x, ElA v n i fo)] o (ElA v n i fo) := fun a w bad _ nd => by
  obtain ⟨g, hg, hv⟩ := nd.h0
  exact Runs.value (v := .pointer (some ⟨g, i.toNat * n + fo, none⟩)) (by simp [execOp, ho, hv]) ⟨⟨g, hg, rfl⟩, Same.refl w⟩
/-- A slice that a variable in memory of the call's own holds is written no more. -/
theorem StTo.boxFreeze {c : Cx} {env : Env} {O Or : List Ent} {α : Type} {e : TypeId} {v : Value} {kd : Kd α} {xs : List α} {b : Nat} {L : List Asn} (is : List Nat) (i : Nat) (hp : pick is O = some ([SlE e v kd xs, BoxE b L], Or)) (hi : L[i]? = some (HdA v)) :
    StTo c env O env (BoxE b (L.set i (SlcA kd xs)) :: Or) := fun a w s => by
  have hp' := perm_pick hp
  have s1 : St c env ([SlE e v kd xs] ++ (BoxE b L :: Or)) a w := s.perm hp'
  have h := SlE.ro (O := BoxE b L :: Or) s1.sat
  have s2 : St c env (BoxE b L :: Or) a w := s1.drop
  refine ⟨s2.defers, s2.size, ⟨s2.sat.nodup, s2.sat.out, s2.sat.lt, fun E hE => ?_⟩, ⟨s2.frame.os, s2.frame.tape, s2.frame.output, s2.frame.size, s2.frame.keep⟩, s2.env⟩
  rcases List.mem_cons.1 hE with rfl | hE
  · obtain ⟨cs, el, hh, hk⟩ := s2.sat.holds (BoxE b L) (by simp)
    obtain ⟨u, hu1, hu2⟩ := All2.get hk hi
    have hu3 : u = v := hu2.1
    subst hu3
    exact ⟨cs, el, hh, All2.set hk hu1 h⟩
  · exact s2.sat.holds E (by simp [hE])
/-- .. and a pointer to an element of it is one that is read only. -/
theorem StTo.ptrFreezeE {c : Cx} {env : Env} {O Or : List Ent} {α : Type} [Inhabited α] {e : TypeId} {v : Value} {kd : Kd α} {xs : List α} {L : List Asn} {n : Nat} {x : Int} (is : List Nat) (t i s : Nat) (hp : pick is O = some ([SlE e v kd xs], Or)) (hl : look env t = some (PtrA L)) (hi : L[i]? = some (HdA v))
    (hs : look env s = some (ElA v n x 0)) (hn : kd.n = n) (h0 : 0 ≤ x) (h1 : x < xs.length) : StTo c env O ((s, PtrA (kd.c (rd xs x))) :: (t, PtrA (L.set i (SlcA kd xs))) :: env) Or := fun a w st => by
  have s1 := st.perm (perm_pick hp)
  have h := SlE.ro (O := Or) s1.sat
  have hE := s1.sat.holds (SlE e v kd xs) (by simp)
  have s2 : St c env Or a w := s1.drop
  obtain ⟨b, o, cs, e1, hb, nb, hk, hc⟩ := s2.env t _ hl
  obtain ⟨u, hu1, hu2⟩ := All2.get hk hi
  have hu3 : u = v := hu2.1
  subst hu3
  have s3 := s2.add (t := t) (A := PtrA (L.set i (SlcA kd xs))) ⟨b, o, cs, e1, hb, nb, All2.set hk hu1 h, hc⟩
  refine s3.add ?_
  obtain ⟨g, hg, hv⟩ := s2.env s _ hs
  rcases hE with ⟨rfl, _⟩ | ⟨g', hg', cs', hk', hl', ho⟩
  · simp at h1; omega
  · rcases ho with ⟨rfl, hz⟩ | ⟨g2, cap, cur, rfl, _⟩
    · cases hg
    · obtain ⟨base, cap2, hv2, _, _, hx⟩ := h
      rcases hx with rfl | ⟨b3, o3, cs3, rfl, hb3, nb3, hk3, hc3⟩
      · simp at h1; omega
      · injection hv2 with q _ _
        injection q with q
        injection q with q1 q2 _
        subst q1; subst q2; subst hn
        have gg : g = g2 := by
          cases cap with
          | zero => cases hg
          | succ c => simp [ownB] at hg; exact hg.symm
        subst gg
        have h4 := kd.cs_at xs x.toNat _ (rd_get h0 h1)
        rw [hv]
        refine ⟨g, 0 + x.toNat * kd.n, (cs3.drop (x.toNat * kd.n)).take kd.n, by simp, hb3, nb3, ?_, (hc3.drop _).take _⟩
        rw [← h4]; exact (hk3.drop _).take _
/-- A shorter name for what a slice holds. -/
theorem StTo.slEq {c : Cx} {env : Env} {O Or : List Ent} {α : Type} {e : TypeId} {v : Value} {kd : Kd α} {xs ys : List α} (is : List Nat) (hp : pick is O = some ([SlE e v kd xs], Or)) (h : xs = ys) : StTo c env O env (SlE e v kd ys :: Or) := fun a w s => by
  subst h
  exact s.perm (perm_pick hp)
end Go.Abs
