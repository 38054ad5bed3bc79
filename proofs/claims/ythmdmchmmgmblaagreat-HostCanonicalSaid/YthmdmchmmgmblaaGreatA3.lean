/- A region that draws its order: the operations that leave memory alone in any order, then those that write, one behind the other. -/
import Derived.Test.YthmdmchmmgmblaaGreatA2
import Derived.StillTail
namespace Go.Abs
open Go Go.RowKit

/-- The temporaries that an operation names. -/
def namesOf (ops : Array Oper) (o : Oper) : List Nat :=
  o.dst.toList ++ (o.op.operands.toList.filterMap fun | .tmp t => some t | _ => none) ++
  (match o.guard with
   | some (g, _) => ((ops[g]?).bind (·.dst)).toList
   | none => [])
def ndTmps (nd : List (Operand × Asn)) : List Nat := nd.filterMap fun p => match p.1 with | .tmp t => some t | _ => none
/-- 'B': for each operation those that come before it in every order. -/
def closOk (ops : Array Oper) (B : List (List Nat)) : Bool :=
  (List.range ops.size).all fun i => match ops[i]? with
    | none => false
    | some o => (o.after.all fun e => !Region.binds .any e || decide (e.on < i)) &&
      (B.getD i []).all fun j => o.after.any fun e => Region.binds .any e && (e.on == j || (B.getD e.on []).contains j)
def tmpsOk (ops : Array Oper) (B : List (List Nat)) : Bool :=
  (List.range ops.size).all fun i => (List.range ops.size).all fun k => i == k || match ops[i]?, (ops[k]?).bind (·.dst) with
    | some o, some t => !(namesOf ops o).contains t || (B.getD (max i k) []).contains (min i k)
    | _, _ => true
/-- Each of a chain comes behind all that stand before it there. -/
def chainOk (B : List (List Nat)) : List Nat → Bool
  | [] => true
  | i :: cs => (cs.all fun j => (B.getD j []).contains i) && chainOk B cs
/-- 'qs': the quiet ones, and whether each reads owned memory; 'cs': the chain. -/
def drawOk (ops : Array Oper) (qs : List (Nat × Bool)) (cs : List Nat) (B : List (List Nat)) : Bool :=
  closOk ops B && tmpsOk ops B && chainOk B cs && ((List.range ops.size).all fun i => (qs.map (·.1)).contains i || cs.contains i) && (qs.all fun i => decide (i.1 < ops.size) && !cs.contains i.1) &&
  (cs.all fun i => decide (i < ops.size)) && (qs.all fun q => cs.all fun k => !(B.getD q.1 []).contains k) && upOk (qs.map (·.1)) &&
  (qs.all fun q => !q.2 || (match cs with | [] => true | k :: _ => (B.getD k []).contains q.1))
where
  upOk : List Nat → Bool
    | [] => true
    | i :: r => (r.all fun j => decide (i < j)) && upOk r

def NeedsS (env : Env) (nd : List (Operand × Asn)) : Prop := ∀ p ∈ nd, match p.1 with
  | .tmp t => look env t = some p.2
  | .const v => ∀ w bad, p.2.P w bad v
  | _ => False
theorem NeedsS.nil {env} : NeedsS env [] := fun p hp => by simp at hp
theorem NeedsS.t {env : Env} {t : Nat} {A : Asn} {r} (h : look env t = some A) (k : NeedsS env r) : NeedsS env ((.tmp t, A) :: r) := fun p hp => by
  rcases List.mem_cons.1 hp with rfl | hp
  · exact h
  · exact k p hp
theorem NeedsS.ka {env : Env} {v : Value} {A : Asn} {r} (h : ∀ w bad, A.P w bad v) (k : NeedsS env r) : NeedsS env ((.const v, A) :: r) := fun p hp => by
  rcases List.mem_cons.1 hp with rfl | hp
  · exact h
  · exact k p hp
theorem NeedsS.k {env : Env} {v : Value} {r} (k : NeedsS env r) : NeedsS env ((.const v, EqA v) :: r) := NeedsS.ka (fun _ _ => rfl) k
theorem NeedsS.needs {env nd} (h : NeedsS env nd) : Needs env nd := fun c O a w s p hp => by
  have := h p hp
  obtain ⟨x, A⟩ := p
  cases x with
  | tmp t => exact s.tmp this
  | const v => exact this _ _
  | global g => exact this.elim
  | func f => exact this.elim

/-- One operation of the part in any order; 'dep': it reads owned memory. -/
inductive DStep (c : Cx) (ops : Array Oper) (O : List Ent) (env : Env) (o : Oper) : Bool → Asn → Prop
  | p {nd : List (Operand × Asn)} {dep : Bool} {A : Asn} (hg : o.guard = none) (hn : NeedsS env nd) (ht : (ndTmps nd).all (fun t => (namesOf ops o).contains t) = true) (hq : QS c.P nd o A) : DStep c ops O env o dep A
  | o {nd : List (Operand × Asn)} {A : Asn} (hg : o.guard = none) (hn : NeedsS env nd) (ht : (ndTmps nd).all (fun t => (namesOf ops o).contains t) = true) (hq : QO c.P c.fg O nd o A) : DStep c ops O env o true A
  | gp {g t : Nat} {dep : Bool} {b want : Bool} {nd : List (Operand × Asn)} {A : Asn} (hg : o.guard = some (g, want)) (hd : (ops[g]?).bind (·.dst) = some t) (hl : look env t = some (EqA (.bool b))) (e : b = want)
      (hn : NeedsS env nd) (ht : (ndTmps nd).all (fun t => (namesOf ops o).contains t) = true) (hq : QS c.P nd o A) : DStep c ops O env o dep A
  | go {g t : Nat} {b want : Bool} {nd : List (Operand × Asn)} {A : Asn} (hg : o.guard = some (g, want)) (hd : (ops[g]?).bind (·.dst) = some t) (hl : look env t = some (EqA (.bool b))) (e : b = want)
      (hn : NeedsS env nd) (ht : (ndTmps nd).all (fun t => (namesOf ops o).contains t) = true) (hq : QO c.P c.fg O nd o A) : DStep c ops O env o true A
  | off {g t : Nat} {dep : Bool} {b want : Bool} (hg : o.guard = some (g, want)) (hd : (ops[g]?).bind (·.dst) = some t) (hl : look env t = some (EqA (.bool b))) (e : b = !want) : DStep c ops O env o dep UndA
  | und {g t : Nat} {dep : Bool} {want : Bool} (hg : o.guard = some (g, want)) (hd : (ops[g]?).bind (·.dst) = some t) (hl : look env t = some UndA) : DStep c ops O env o dep UndA

def DSteps (c : Cx) (ops : Array Oper) (O : List Ent) : Env → List (Bool × Oper) → Env → Prop
  | env, [], env' => env' = env
  | env, o :: rest, env' => ∃ d A, o.2.dst = some d ∧ d < c.N ∧ DStep c ops O env o.2 o.1 A ∧ DSteps c ops O ((d, A) :: env) rest env'
theorem DSteps.nil {c ops O env} : DSteps c ops O env [] env := rfl
theorem DSteps.cons {c ops O env} {o : Oper} {dep : Bool} {rest env' d A} (hd : o.dst = some d) (hN : Nat.blt d c.N = true) (h : DStep c ops O env o dep A) (k : DSteps c ops O ((d, A) :: env) rest env') : DSteps c ops O env ((dep, o) :: rest) env' :=
  ⟨d, A, hd, by simpa using hN, h, k⟩

/-- The operations that write, one behind the other; what each asks lies open. -/
def CSteps (c : Cx) (ops : Array Oper) (Q : Post) : Env → List Ent → List Oper → Prop
  | env, O, [] => QN c env O Q
  | env, O, o :: rest => o.guard = none ∧ ∃ (is : List Nat) (Oc Or : List Ent) (nd : List (Operand × Asn)) (R : List Ent → Asn → Prop), pick is O = some (Oc, Or) ∧ NeedsS env nd ∧ (ndTmps nd).all (fun t => (namesOf ops o).contains t) = true ∧ WS c.P Oc nd o R ∧
      ∀ O' A, R O' A → (∀ d, o.dst = some d → d < c.N ∧ CSteps c ops Q ((d, A) :: env) (O' ++ Or) rest) ∧ (o.dst = none → CSteps c ops Q env (O' ++ Or) rest)
section
variable {c : Cx} {ops : Array Oper} {Q : Post} {env : Env} {O Oc Or : List Ent} {o : Oper} {rest : List Oper}
theorem CSteps.nil (h : QN c env O Q) : CSteps c ops Q env O [] := h
theorem CSteps.w {d : Nat} (is : List Nat) {nd : List (Operand × Asn)} {R : List Ent → Asn → Prop} (hp : pick is O = some (Oc, Or)) (hg : o.guard = none) (hd : o.dst = some d) (hN : Nat.blt d c.N = true) (hn : NeedsS env nd)
    (ht : (ndTmps nd).all (fun t => (namesOf ops o).contains t) = true) (hs : WS c.P Oc nd o R) (h : ∀ O' A, R O' A → CSteps c ops Q ((d, A) :: env) (O' ++ Or) rest) : CSteps c ops Q env O (o :: rest) :=
  ⟨hg, is, Oc, Or, nd, R, hp, hn, ht, hs, fun O' A r => ⟨fun d' e => by rw [hd] at e; simp at e; subst e; exact ⟨by simpa using hN, h O' A r⟩, fun e => by rw [hd] at e; cases e⟩⟩
theorem CSteps.w0 (is : List Nat) {nd : List (Operand × Asn)} {R : List Ent → Asn → Prop} (hp : pick is O = some (Oc, Or)) (hg : o.guard = none) (hd : o.dst = none) (hn : NeedsS env nd)
    (ht : (ndTmps nd).all (fun t => (namesOf ops o).contains t) = true) (hs : WS c.P Oc nd o R) (h : ∀ O' A, R O' A → CSteps c ops Q env (O' ++ Or) rest) : CSteps c ops Q env O (o :: rest) :=
  ⟨hg, is, Oc, Or, nd, R, hp, hn, ht, hs, fun O' A r => ⟨fun d' e => (by rw [hd] at e; cases e), fun _ => h O' A r⟩⟩
/-- One that leaves memory alone, in the chain. -/
theorem CSteps.p {d : Nat} {nd : List (Operand × Asn)} {A : Asn} (hg : o.guard = none) (hd : o.dst = some d) (hN : Nat.blt d c.N = true) (hn : NeedsS env nd)
    (ht : (ndTmps nd).all (fun t => (namesOf ops o).contains t) = true) (hq : QS c.P nd o A) (h : CSteps c ops Q ((d, A) :: env) O rest) : CSteps c ops Q env O (o :: rest) :=
  CSteps.w (Oc := []) (Or := O) [] (R := RA A) rfl hg hd hN hn ht (fun fg a w s n => (hq a w _ s.bad_lt n).mono fun v w' ⟨hv, sm⟩ => ⟨[], A, ⟨rfl, rfl⟩, sm.sat s, sm.frame [], hv⟩)
    (fun O' B ⟨e1, e2⟩ => by subst e1; subst e2; exact h)
/-- One that reads owned memory, in the chain. -/
theorem CSteps.ro {d : Nat} (is : List Nat) {nd : List (Operand × Asn)} {A : Asn} (hp : pick is O = some (Oc, Or)) (hg : o.guard = none) (hd : o.dst = some d) (hN : Nat.blt d c.N = true) (hn : NeedsS env nd)
    (ht : (ndTmps nd).all (fun t => (namesOf ops o).contains t) = true) (hq : ∀ fg, QO c.P fg Oc nd o A) (h : CSteps c ops Q ((d, A) :: env) (Oc ++ Or) rest) : CSteps c ops Q env O (o :: rest) :=
  CSteps.w is (R := fun O' B => O' = Oc ∧ B = A) hp hg hd hN hn ht (fun fg a w s n => (hq fg a w s n).mono fun v w' ⟨hv, sm⟩ => ⟨Oc, A, ⟨rfl, rfl⟩, sm.sat s, sm.frame Oc, hv⟩)
    (fun O' B ⟨e1, e2⟩ => by subst e1; subst e2; exact h)
end

/-! ### The proof -/
abbrev Tab := List ((Nat × Bool) × (Nat × Asn))
/-- What the slots hold, the quiet operations of 'L' carried out. -/
def envL (L : Nat → Bool) : Tab → Env → Env
  | [], env => env
  | p :: ds, env => envL L ds (bif L p.1.1 then p.2 :: env else env)
theorem look_cons_ne {p : Nat × Asn} {env : Env} {t : Nat} (h : p.1 ≠ t) : look (p :: env) t = look env t := by
  have hb : Nat.beq p.1 t = false := by
    cases hb : Nat.beq p.1 t with
    | false => rfl
    | true => exact absurd (Nat.eq_of_beq_eq_true hb) h
  simp only [look, hb, cond_false]
theorem look_cons_eq {p : Nat × Asn} {env : Env} {t : Nat} (h : p.1 = t) : look (p :: env) t = some p.2 := by subst h; simp [look]
theorem envL_congr {L L' : Nat → Bool} {t : Nat} : ∀ (ds : Tab) (env env' : Env), (∀ p ∈ ds, p.2.1 = t → L p.1.1 = L' p.1.1) → look env t = look env' t → look (envL L ds env) t = look (envL L' ds env') t
  | [], _, _, _, h => h
  | p :: ds, env, env', hL, h => by
    simp only [envL]
    refine envL_congr ds _ _ (fun q hq ht => hL q (List.mem_cons_of_mem _ hq) ht) ?_
    by_cases hp : p.2.1 = t
    · rw [hL p (List.mem_cons_self ..) hp]
      cases L' p.1.1 with
      | false => exact h
      | true => simp only [cond_true]; rw [look_cons_eq hp, look_cons_eq hp]
    · have h1 : look (bif L p.1.1 then p.2 :: env else env) t = look env t := by cases L p.1.1 <;> simp [look_cons_ne hp]
      have h2 : look (bif L' p.1.1 then p.2 :: env' else env') t = look env' t := by cases L' p.1.1 <;> simp [look_cons_ne hp]
      rw [h1, h2, h]
theorem envL_none : ∀ (ds : Tab) (env : Env) (L : Nat → Bool), (∀ p ∈ ds, L p.1.1 = false) → envL L ds env = env
  | [], _, _, _ => rfl
  | p :: ds, env, L, h => by
    simp only [envL]
    rw [h p (List.mem_cons_self ..), cond_false]
    exact envL_none ds env L fun q hq => h q (List.mem_cons_of_mem _ hq)
theorem look_append {A B : Env} {t : Nat} : look (A ++ B) t = match look A t with | some x => some x | none => look B t := by
  induction A with
  | nil => rfl
  | cons p A ih =>
    by_cases hp : p.1 = t
    · rw [List.cons_append, look_cons_eq hp, look_cons_eq hp]
    · rw [List.cons_append, look_cons_ne hp, look_cons_ne hp, ih]
theorem look_none {A : Env} {t : Nat} (h : ∀ p ∈ A, p.1 ≠ t) : look A t = none := by
  induction A with
  | nil => rfl
  | cons p A ih => rw [look_cons_ne (h p (List.mem_cons_self ..))]; exact ih fun q hq => h q (List.mem_cons_of_mem _ hq)

/-- The table of the quiet steps. -/
theorem DSteps.table {c : Cx} {ops : Array Oper} {O : List Ent} : ∀ (qs : List (Nat × Bool)) (l : List (Bool × Oper)) (env env' : Env), drawOk.upOk (qs.map (·.1)) = true → (∀ i ∈ qs, (ops[i.1]?).isSome = true) →
    l = qs.filterMap (fun q => (ops[q.1]?).map fun o => (q.2, o)) → DSteps c ops O env l env' →
    ∃ ds : Tab, ds.map (·.1) = qs ∧ env' = envL (fun _ => true) ds env ∧ ∀ p ∈ ds, ∃ o, ops[p.1.1]? = some o ∧ o.dst = some p.2.1 ∧ p.2.1 < c.N ∧ DStep c ops O (envL (fun k => decide (k < p.1.1)) ds env) o p.1.2 p.2.2
  | [], l, env, env', _, _, hl, h => by subst hl; exact ⟨[], rfl, by simpa [DSteps, envL] using h, fun p hp => by simp at hp⟩
  | i :: qs, l, env, env', hup, hsome, hl, h => by
    obtain ⟨o, ho⟩ := Option.isSome_iff_exists.1 (hsome i (List.mem_cons_self ..))
    rw [List.filterMap_cons, ho] at hl
    subst hl
    obtain ⟨d, A, hd, hN, hs, k⟩ := h
    simp only [List.map_cons, drawOk.upOk, Bool.and_eq_true] at hup
    obtain ⟨ds, hm, he, ht⟩ := DSteps.table qs _ _ _ hup.2 (fun j hj => hsome j (List.mem_cons_of_mem _ hj)) rfl k
    have hlt : ∀ q ∈ ds, i.1 < q.1.1 := fun q hq => by
      have : q.1 ∈ qs := by rw [← hm]; exact List.mem_map_of_mem hq
      simpa using List.all_eq_true.1 hup.1 q.1.1 (List.mem_map_of_mem this)
    refine ⟨(i, d, A) :: ds, by simp [hm], by simp only [envL, cond_true]; exact he, fun p hp => ?_⟩
    rcases List.mem_cons.1 hp with rfl | hp
    · refine ⟨o, ho, hd, hN, ?_⟩
      simp only [envL, Nat.lt_irrefl, decide_false, cond_false]
      rw [envL_none]
      · exact hs
      · intro q hq; have := hlt q hq; exact decide_eq_false (by omega)
    · obtain ⟨o', h1, h2, h3, h4⟩ := ht p hp
      refine ⟨o', h1, h2, h3, ?_⟩
      simp only [envL]
      rw [decide_eq_true (hlt p hp), cond_true]
      exact h4

theorem clos_in {ops : Array Oper} {B : List (List Nat)} (hB : closOk ops B = true) {listed : Array Bool}
    (hcl : ∀ j oj, ops[j]? = some oj → listed.getD j false = true → ∀ e ∈ oj.after, Region.binds .any e = true → listed.getD e.on false = true) :
    ∀ (i : Nat) (o : Oper), ops[i]? = some o → (∀ e ∈ o.after, Region.binds .any e = true → listed.getD e.on false = true) → ∀ j ∈ B.getD i [], listed.getD j false = true := by
  intro i
  induction i using Nat.strongRecOn with
  | _ i ih =>
    intro o ho hr j hj
    have hi : i < ops.size := (Array.getElem?_eq_some_iff.1 ho).1
    have h1 := List.all_eq_true.1 hB i (List.mem_range.2 hi)
    simp only [ho, Bool.and_eq_true] at h1
    obtain ⟨hlt, hall⟩ := h1
    obtain ⟨e, he, hb⟩ := Array.any_eq_true'.1 (List.all_eq_true.1 hall j hj)
    simp only [Bool.and_eq_true, Bool.or_eq_true, beq_iff_eq] at hb
    obtain ⟨hbind, hor⟩ := hb
    have hon := hr e he hbind
    rcases hor with rfl | hor
    · exact hon
    · have hlt' := Array.all_eq_true_iff_forall_mem.1 hlt e he
      simp only [hbind, Bool.not_true, Bool.false_or, decide_eq_true_eq] at hlt'
      have hos : e.on < ops.size := by omega
      obtain ⟨o', ho'⟩ : ∃ o', ops[e.on]? = some o' := ⟨ops[e.on], Array.getElem?_eq_getElem hos⟩
      exact ih e.on hlt' o' ho' (fun e' he' hb' => hcl e.on o' ho' hon e' he' hb') j (by simpa using hor)

structure DInv (c : Cx) (ops : Array Oper) (O0 : List Ent) (Q : Post) (cs : List Nat) (ds : Tab) (env : Env) (listed : Array Bool) (a : Act) (w : World) (done : List Nat) (rest : List Nat) (ch : Env) (O : List Ent) : Prop where
  size : listed.size = ops.size
  closed : ∀ j oj, ops[j]? = some oj → listed.getD j false = true → ∀ e ∈ oj.after, Region.binds .any e = true → listed.getD e.on false = true
  cut : cs = done ++ rest
  doneIn : ∀ i ∈ done, listed.getD i false = true
  restOut : ∀ i ∈ rest, listed.getD i false = false
  chIn : ∀ p ∈ ch, ∃ i ∈ done, (ops[i]?).bind (·.dst) = some p.1
  steps : CSteps c ops Q (ch ++ envL (fun _ => true) ds env) O (rest.filterMap (ops[·]?))
  own : done = [] → O = O0
  st : St c (ch ++ envL (fun k => listed.getD k false) ds env) O a w

/-- How many of the first m are still to come. -/
def left (listed : Array Bool) : Nat → Nat
  | 0 => 0
  | m + 1 => left listed m + (bif listed.getD m false then 0 else 1)
theorem left_set {listed : Array Bool} {i : Nat} (hi : i < listed.size) (hf : listed.getD i false = false) : ∀ m, i < m → left listed m = left (listed.setIfInBounds i true) m + 1
  | 0, h => by omega
  | m + 1, h => by
    simp only [left]
    by_cases him : i = m
    · subst him
      have h1 : ∀ k, k ≤ i → left (listed.setIfInBounds i true) k = left listed k := by
        intro k hk
        induction k with
        | zero => rfl
        | succ k ih => simp only [left]; rw [ih (by omega), getD_set_ne false (by omega)]
      rw [h1 i (Nat.le_refl _), hf]
      have : (listed.setIfInBounds i true).getD i false = true := by simp [hi]
      rw [this]; simp
    · rw [left_set hi hf m (by omega), getD_set_ne false him]; omega
theorem left_zero {listed : Array Bool} : ∀ m, left listed m = 0 → ∀ j, j < m → listed.getD j false = true
  | 0, _, j, hj => by omega
  | m + 1, h, j, hj => by
    simp only [left] at h
    by_cases hjm : j = m
    · subst hjm
      cases hx : listed.getD j false with
      | true => rfl
      | false => rw [hx] at h; simp at h
    · exact left_zero m (by omega) j (by omega)
theorem left_pos {listed : Array Bool} : ∀ m, left listed m ≠ 0 → ∃ j, j < m ∧ listed.getD j false = false ∧ ∀ k, k < j → listed.getD k false = true
  | 0, h => by simp [left] at h
  | m + 1, h => by
    by_cases hm : left listed m = 0
    · refine ⟨m, by omega, ?_, left_zero m hm⟩
      cases hx : listed.getD m false with
      | false => rfl
      | true => simp [left, hm, hx] at h
    · obtain ⟨j, h1, h2, h3⟩ := left_pos m hm
      exact ⟨j, by omega, h2, h3⟩

section
variable {c : Cx} {ops : Array Oper} {O : List Ent} {env : Env} {Q : Post}
theorem needs_same {envT envL' : Env} {o : Oper} (hlk : ∀ t ∈ namesOf ops o, look envL' t = look envT t) {nd : List (Operand × Asn)} (h1 : NeedsS envT nd) (h2 : (ndTmps nd).all (fun t => (namesOf ops o).contains t) = true) : NeedsS envL' nd := fun p hp => by
  have := h1 p hp
  obtain ⟨x, B⟩ := p
  cases x with
  | tmp t =>
    have hm : t ∈ ndTmps nd := List.mem_filterMap.2 ⟨(.tmp t, B), hp, rfl⟩
    have hc : t ∈ namesOf ops o := by simpa using List.all_eq_true.1 h2 t hm
    show look envL' t = some B
    rw [hlk t hc]; exact this
  | const v => exact this
  | global g => exact this
  | func f => exact this
theorem DStep.runs {o : Oper} {A : Asn} {dep : Bool} {O0 : List Ent} {envT envL' : Env} (h : DStep c ops O0 envT o dep A) (hO : dep = true → O = O0) (hlk : ∀ t ∈ namesOf ops o, look envL' t = look envT t) {a : Act} {w : World}
    (s : St c envL' O a w) : if Region.wanted o (yielded ops a.tmps) = true then Runs c.P o a w (fun v w' => A.P w' (badOf O c.fg) v ∧ Same w w') else A = UndA := by
  have hgd : ∀ g want t, o.guard = some (g, want) → (ops[g]?).bind (·.dst) = some t → t ∈ namesOf ops o := fun g want t hg hd => by simp [namesOf, hg, hd]
  cases h with
  | p hg hn ht hq =>
    rw [if_pos (by simp [Region.wanted, hg])]
    exact hq.o a w s.sat ((needs_same hlk hn ht).needs c O a w s)
  | o hg hn ht hq =>
    rw [if_pos (by simp [Region.wanted, hg])]
    have e := hO rfl
    subst e
    exact hq a w s.sat ((needs_same hlk hn ht).needs c O a w s)
  | gp hg hd hl2 e hn ht hq =>
    have hw := Wanted.on (ops := ops) (env := envL') hg hd (by rw [hlk _ (hgd _ _ _ hg hd)]; exact hl2) e c O a w s
    rw [if_pos hw]
    exact hq.o a w s.sat ((needs_same hlk hn ht).needs c O a w s)
  | go hg hd hl2 e hn ht hq =>
    have hw := Wanted.on (ops := ops) (env := envL') hg hd (by rw [hlk _ (hgd _ _ _ hg hd)]; exact hl2) e c O a w s
    rw [if_pos hw]
    have e := hO rfl
    subst e
    exact hq a w s.sat ((needs_same hlk hn ht).needs c O a w s)
  | off hg hd hl2 e =>
    have hw := Unwanted.on (ops := ops) (env := envL') hg hd (by rw [hlk _ (hgd _ _ _ hg hd)]; exact hl2) e c O a w s
    rw [if_neg (by simp [hw])]
  | und hg hd hl2 =>
    have hw := Unwanted.und (ops := ops) (env := envL') hg hd (by rw [hlk _ (hgd _ _ _ hg hd)]; exact hl2) c O a w s
    rw [if_neg (by simp [hw])]

theorem tmps_use {B : List (List Nat)} (htm : tmpsOk ops B = true) {i k : Nat} {o ok : Oper} {t : Nat} (hi : ops[i]? = some o) (hk : ops[k]? = some ok) (hne : i ≠ k) (hd : ok.dst = some t) (ht : t ∈ namesOf ops o) : min i k ∈ B.getD (max i k) [] := by
  have his := (Array.getElem?_eq_some_iff.1 hi).1
  have hks := (Array.getElem?_eq_some_iff.1 hk).1
  have h1 := List.all_eq_true.1 (List.all_eq_true.1 htm i (List.mem_range.2 his)) k (List.mem_range.2 hks)
  have hc : (namesOf ops o).contains t = true := by simpa using ht
  simp only [hi, hk, Option.bind_some, hd, Bool.or_eq_true, beq_iff_eq, hne, false_or, Bool.not_eq_true', hc] at h1
  rcases h1 with h1 | h1
  · cases h1
  · simpa using h1
theorem chain_use {B : List (List Nat)} : ∀ {cs : List Nat}, chainOk B cs = true → ∀ {a : List Nat} {i : Nat} {b : List Nat}, cs = a ++ i :: b → (∀ j ∈ a, j ∈ B.getD i []) ∧ (∀ j ∈ b, i ∈ B.getD j [])
  | [], _, a, i, b, h => by cases a <;> simp at h
  | x :: cs, hc, a, i, b, h => by
    simp only [chainOk, Bool.and_eq_true] at hc
    cases a with
    | nil =>
      simp only [List.nil_append, List.cons.injEq] at h
      obtain ⟨rfl, rfl⟩ := h
      exact ⟨fun j hj => by simp at hj, fun j hj => by simpa using List.all_eq_true.1 hc.1 j hj⟩
    | cons y a =>
      simp only [List.cons_append, List.cons.injEq] at h
      obtain ⟨rfl, rfl⟩ := h
      obtain ⟨h1, h2⟩ := chain_use hc.2 (a := a) (i := i) (b := b) rfl
      refine ⟨fun j hj => ?_, h2⟩
      rcases List.mem_cons.1 hj with rfl | hj
      · have := List.all_eq_true.1 hc.1 i (by simp); simpa using this
      · exact h1 j hj

theorem draw_any {qs : List (Nat × Bool)} {cs : List Nat} {B : List (List Nat)} {O0 : List Ent} (hck : drawOk ops qs cs B = true) {ds : Tab} (hds : ds.map (·.1) = qs)
    (htab : ∀ p ∈ ds, ∃ o, ops[p.1.1]? = some o ∧ o.dst = some p.2.1 ∧ p.2.1 < c.N ∧ DStep c ops O0 (envL (fun k => decide (k < p.1.1)) ds env) o p.1.2 p.2.2) :
    ∀ (f : Nat) (listed : Array Bool) (a : Act) (w : World) (done rest : List Nat) (ch : Env) (O : List Ent), left listed ops.size = f → DInv c ops O0 Q cs ds env listed a w done rest ch O → wpAny c.P .any ops Q f listed a w := by
  simp only [drawOk, Bool.and_eq_true] at hck
  obtain ⟨⟨⟨⟨⟨⟨⟨⟨hcl, htm⟩, hch⟩, hpart⟩, hqs⟩, hcs⟩, hqc⟩, hup⟩, hdep⟩ := hck
  intro f
  induction f with
  | zero =>
    intro listed a w done rest ch O hf inv
    have hall := left_zero _ hf
    refine ⟨?_, ?_⟩
    · rw [List.eq_nil_iff_forall_not_mem]
      intro i hi
      obtain ⟨hun, o, ho, _⟩ := mem_ready.1 hi
      have his := (Array.getElem?_eq_some_iff.1 ho).1
      have h1 := hall i his
      have h2 : i < listed.size := by rw [inv.size]; exact his
      simp [h2] at h1 hun
      rw [h1] at hun; cases hun
    · have hr : rest = [] := by
        cases hr : rest with
        | nil => rfl
        | cons i r =>
          have h1 := inv.restOut i (by rw [hr]; simp)
          have h2 : i < ops.size := by
            have := List.all_eq_true.1 hcs i (by rw [inv.cut, hr]; simp)
            simpa using this
          rw [hall i h2] at h1; cases h1
      have hst := inv.steps
      rw [hr] at hst
      have he : ∀ t, look (ch ++ envL (fun k => listed.getD k false) ds env) t = look (ch ++ envL (fun _ => true) ds env) t := fun t => by
        rw [look_append, look_append, envL_congr (L' := fun _ => true) ds env env (fun p hp _ => ?_) rfl]
        obtain ⟨o, ho, _⟩ := htab p hp
        exact hall _ (Array.getElem?_eq_some_iff.1 ho).1
      exact hst a w ⟨inv.st.defers, inv.st.size, inv.st.sat, inv.st.frame, fun t A hA => inv.st.env t A (by rw [he]; exact hA)⟩
  | succ f ih =>
    intro listed a w done rest ch O hf inv
    refine ⟨fun h0 => ?_, fun i hi => ?_⟩
    · obtain ⟨j, hj, hjf, hjk⟩ := left_pos ops.size (by omega : left listed ops.size ≠ 0)
      obtain ⟨oj, hoj⟩ : ∃ oj, ops[j]? = some oj := ⟨ops[j], Array.getElem?_eq_getElem hj⟩
      have : j ∈ Region.ready .any ops listed := by
        refine mem_ready.2 ⟨?_, oj, hoj, fun e he hb => ?_⟩
        · have h2 : j < listed.size := by rw [inv.size]; exact hj
          simpa [h2] using hjf
        · have h1 := List.all_eq_true.1 hcl j (List.mem_range.2 hj)
          simp only [hoj, Bool.and_eq_true] at h1
          have h2 := Array.all_eq_true_iff_forall_mem.1 h1.1 e he
          simp only [hb, Bool.not_true, Bool.false_or, decide_eq_true_eq] at h2
          exact hjk _ h2
      rw [h0] at this
      simp at this
    · obtain ⟨hun, o, ho, hpre⟩ := mem_ready.1 hi
      have his : i < ops.size := (Array.getElem?_eq_some_iff.1 ho).1
      have hils : i < listed.size := by rw [inv.size]; exact his
      have hif : listed.getD i false = false := by simpa [hils] using hun
      have hB := clos_in hcl inv.closed i o ho hpre
      have hBl : ∀ k ok, ops[k]? = some ok → listed.getD k false = true → ∀ j ∈ B.getD k [], listed.getD j false = true := fun k ok hk hl => clos_in hcl inv.closed k ok hk (fun e he hb => inv.closed k ok hk hl e he hb)
      have closed' : ∀ j oj, ops[j]? = some oj → (listed.setIfInBounds i true).getD j false = true → ∀ e ∈ oj.after, Region.binds .any e = true → (listed.setIfInBounds i true).getD e.on false = true := by
        intro j oj hj hl e he hb
        by_cases hij : i = j
        · subst hij
          have : oj = o := Option.some.inj (hj.symm.trans ho)
          subst this
          exact getD_set_true (hpre e he hb)
        · rw [getD_set_ne false hij] at hl
          exact getD_set_true (inv.closed j oj hj hl e he hb)
      -- a slot that it names: who writes it, of those behind
      have apart : ∀ k ok t, ops[k]? = some ok → ok.dst = some t → t ∈ namesOf ops o → k ≠ i → (listed.getD k false = true → k ∈ B.getD i []) ∧ (k ∈ B.getD i [] ∨ i ∈ B.getD k []) := by
        intro k ok t hk hd ht hne
        have h1 := tmps_use htm ho hk (Ne.symm hne) hd ht
        rcases Nat.lt_or_ge k i with hlt | hge
        · rw [Nat.max_eq_left (by omega), Nat.min_eq_right (by omega)] at h1
          exact ⟨fun _ => h1, .inl h1⟩
        · rw [Nat.max_eq_right (by omega), Nat.min_eq_left (by omega)] at h1
          refine ⟨fun hl => ?_, .inr h1⟩
          have := hBl k ok hk hl i h1
          rw [hif] at this; cases this
      have hmem : i ∈ qs.map (·.1) ∨ i ∈ cs := by
        have := List.all_eq_true.1 hpart i (List.mem_range.2 his)
        simpa using this
      by_cases hic : i ∈ cs
      · -- one of the chain: the next
        have hir : i ∈ rest := by
          rw [inv.cut] at hic
          rcases List.mem_append.1 hic with h | h
          · have := inv.doneIn i h; rw [hif] at this; cases this
          · exact h
        obtain ⟨r1, r2, hr⟩ := List.append_of_mem hir
        have hr1 : r1 = [] := by
          cases r1 with
          | nil => rfl
          | cons x r1 =>
            have hx := (chain_use hch (a := done ++ x :: r1) (i := i) (b := r2) (by rw [inv.cut, hr]; simp)).1 x (by simp)
            have := hB x hx
            rw [inv.restOut x (by rw [hr]; simp)] at this; cases this
        subst hr1
        simp only [List.nil_append] at hr
        have hst := inv.steps
        rw [hr, List.filterMap_cons, ho] at hst
        obtain ⟨hg, is, Oc, Or, nd, R, hp, hn, htn, hws, hk⟩ := hst
        -- the slots that it names read as behind all the quiet ones
        have hlook : ∀ t ∈ namesOf ops o, look (ch ++ envL (fun k => listed.getD k false) ds env) t = look (ch ++ envL (fun _ => true) ds env) t := fun t ht => by
          rw [look_append, look_append, envL_congr (L' := fun _ => true) ds env env (fun p hp' hpt => ?_) rfl]
          obtain ⟨ok, hok, hdk, _⟩ := htab p hp'
          have hpq : p.1 ∈ qs := by rw [← hds]; exact List.mem_map_of_mem hp'
          have hne : p.1.1 ≠ i := fun e => by
            have := List.all_eq_true.1 hqs p.1 hpq
            simp only [Bool.and_eq_true, Bool.not_eq_true'] at this
            have h3 : cs.contains p.1.1 = true := by rw [e]; simpa using hic
            rw [h3] at this; cases this.2
          rcases (apart p.1.1 ok t hok (by rw [hdk, hpt]) ht hne).2 with h | h
          · exact hB _ h
          · exfalso
            have h4 := List.all_eq_true.1 (List.all_eq_true.1 hqc p.1 hpq) i hic
            simp only [Bool.not_eq_true'] at h4
            have : (B.getD p.1.1 []).contains i = true := by simpa using h
            rw [this] at h4; cases h4
        have hn' := needs_same hlook hn htn
        have s1 : St c _ (Oc ++ Or) a w := inv.st.perm (perm_pick hp)
        have hO : Opd a w (badOf Oc (badOf Or c.fg)) nd := by rw [badOf_append]; exact hn'.needs c _ a w s1
        have hrun := hws (badOf Or c.fg) a w s1.sat.left hO
        have hdone : cs = (done ++ [i]) ++ r2 := by rw [inv.cut, hr]; simp
        have hnd : i ∉ r2 := fun hm => by
          have h5 := (chain_use hch (a := done) (i := i) (b := r2) (by rw [inv.cut, hr])).2 i hm
          have := hB i h5
          rw [hif] at this; cases this
        unfold wpOp
        simp only [ho]
        rw [if_pos (by simp [Region.wanted, hg])]
        refine .inl (hrun _ _ ?_)
        rintro v w' ⟨O', A, hR, s', fr, hA⟩
        have hm := Sat.merge s1.sat s' fr
        have fw := fr.wide (Or := Or)
        have s2 : St c (ch ++ envL (fun k => listed.getD k false) ds env) (O' ++ Or) a w' := ⟨s1.defers, s1.size, hm, s1.frame.trans fw, s1.env.ext (fw.ext c.fg)⟩
        rw [badOf_append] at hA
        obtain ⟨hk1, hk2⟩ := hk O' A hR
        have hle : left (listed.setIfInBounds i true) ops.size = f := by have := left_set hils hif ops.size his; omega
        have hq : ∀ t, look (envL (fun k => (listed.setIfInBounds i true).getD k false) ds env) t = look (envL (fun k => listed.getD k false) ds env) t := fun t =>
          envL_congr ds env env (fun p hp' _ => by
            have hpq : p.1 ∈ qs := by rw [← hds]; exact List.mem_map_of_mem hp'
            have hne : i ≠ p.1.1 := fun e => by
              have := List.all_eq_true.1 hqs p.1 hpq
              simp only [Bool.and_eq_true, Bool.not_eq_true'] at this
              have h3 : cs.contains p.1.1 = true := by rw [← e]; simpa using hic
              rw [h3] at this; cases this.2
            show (listed.setIfInBounds i true).getD p.1.1 false = listed.getD p.1.1 false
            exact getD_set_ne false hne) rfl
        cases hd : o.dst with
        | none =>
          have hk2 := hk2 hd
          refine ih _ _ _ (done ++ [i]) r2 ch (O' ++ Or) hle ⟨by simp [inv.size], closed', hdone, fun j hj => ?_, fun j hj => ?_, fun p hp' => ?_, hk2, fun e => by simp at e, ?_⟩
          · rcases List.mem_append.1 hj with h | h
            · exact getD_set_true (inv.doneIn j h)
            · simp at h; subst h; simp [hils]
          · rw [getD_set_ne false (fun e => hnd (by rw [e]; exact hj))]; exact inv.restOut j (by rw [hr]; exact List.mem_cons_of_mem _ hj)
          · obtain ⟨j, hj, hjd⟩ := inv.chIn p hp'; exact ⟨j, by simp [hj], hjd⟩
          · exact ⟨s2.defers, s2.size, s2.sat, s2.frame, fun t B hB' => s2.env t B (by rw [look_append] at hB' ⊢; rw [hq] at hB'; exact hB')⟩
        | some d =>
          obtain ⟨hN, hk1⟩ := hk1 d hd
          have s3 := s2.put hN hA
          refine ih _ _ _ (done ++ [i]) r2 ((d, A) :: ch) (O' ++ Or) hle ⟨by simp [inv.size], closed', hdone, fun j hj => ?_, fun j hj => ?_, fun p hp' => ?_, hk1, fun e => by simp at e, ?_⟩
          · rcases List.mem_append.1 hj with h | h
            · exact getD_set_true (inv.doneIn j h)
            · simp at h; subst h; simp [hils]
          · rw [getD_set_ne false (fun e => hnd (by rw [e]; exact hj))]; exact inv.restOut j (by rw [hr]; exact List.mem_cons_of_mem _ hj)
          · rcases List.mem_cons.1 hp' with rfl | hp'
            · exact ⟨i, by simp, by simp [ho, hd]⟩
            · obtain ⟨j, hj, hjd⟩ := inv.chIn p hp'; exact ⟨j, by simp [hj], hjd⟩
          · refine ⟨s3.defers, s3.size, s3.sat, s3.frame, fun t B hB' => s3.env t B ?_⟩
            by_cases hdt : d = t
            · rw [List.cons_append, look_cons_eq (p := (d, A)) hdt] at hB'
              rw [look_cons_eq (p := (d, A)) hdt]; exact hB'
            · rw [List.cons_append, look_cons_ne (p := (d, A)) hdt] at hB'
              rw [look_cons_ne (p := (d, A)) hdt]
              rw [look_append] at hB' ⊢; rw [hq] at hB'; exact hB'
      · -- a quiet one
        have hiq : i ∈ qs.map (·.1) := hmem.resolve_right hic
        obtain ⟨q, hqq, hqi⟩ := List.mem_map.1 hiq
        obtain ⟨p, hpd, hpq⟩ : ∃ p ∈ ds, p.1 = q := by rw [← hds] at hqq; exact List.mem_map.1 hqq
        have hp1 : p.1.1 = i := by rw [hpq]; exact hqi
        obtain ⟨o', ho', hd, hN, hstep⟩ := htab p hpd
        rw [hp1] at ho' hstep
        have : o' = o := Option.some.inj (ho'.symm.trans ho)
        subst this
        have hchn : ∀ t ∈ namesOf ops o', ∀ u ∈ ch, u.1 ≠ t := fun t ht u hu hut => by
          obtain ⟨k, hk, hkd⟩ := inv.chIn u hu
          have hkl := inv.doneIn k hk
          obtain ⟨ok, hok, hokd⟩ : ∃ ok, ops[k]? = some ok ∧ ok.dst = some u.1 := by
            cases hx : ops[k]? with
            | none => rw [hx] at hkd; simp at hkd
            | some ok => rw [hx] at hkd; exact ⟨ok, rfl, by simpa using hkd⟩
          have hki : k ≠ i := fun e => by rw [e, hif] at hkl; cases hkl
          have h6 := (apart k ok t hok (by rw [hokd, hut]) ht hki).1 hkl
          have h4 := List.all_eq_true.1 (List.all_eq_true.1 hqc q hqq) k (by rw [inv.cut]; exact List.mem_append_left _ hk)
          simp only [Bool.not_eq_true', hqi] at h4
          have : (B.getD i []).contains k = true := by simpa using h6
          rw [this] at h4; cases h4
        have hlook : ∀ t ∈ namesOf ops o', look (ch ++ envL (fun k => listed.getD k false) ds env) t = look (envL (fun k => decide (k < i)) ds env) t := fun t ht => by
          rw [look_append, look_none (hchn t ht)]
          refine envL_congr ds env env (fun r hr' hrt => ?_) rfl
          obtain ⟨ok, hok, hdk, _⟩ := htab r hr'
          by_cases hri : r.1.1 = i
          · show listed.getD r.1.1 false = decide (r.1.1 < i)
            rw [hri, hif]; simp
          · have h7 := apart r.1.1 ok t hok (by rw [hdk, hrt]) ht hri
            show listed.getD r.1.1 false = decide (r.1.1 < i)
            have h1 := tmps_use htm ho hok (Ne.symm hri) (by rw [hdk, hrt]) ht
            rcases Nat.lt_or_ge r.1.1 i with hlt | hge
            · rw [decide_eq_true hlt]
              rw [Nat.max_eq_left (by omega), Nat.min_eq_right (by omega)] at h1
              exact hB _ h1
            · rw [decide_eq_false (by omega)]
              rw [Nat.max_eq_right (by omega), Nat.min_eq_left (by omega)] at h1
              cases hx : listed.getD r.1.1 false with
              | false => rfl
              | true => have := hBl r.1.1 ok hok hx i h1; rw [hif] at this; cases this
        have hOO : p.1.2 = true → O = O0 := fun hdp => by
          refine inv.own ?_
          cases hdn : done with
          | nil => rfl
          | cons k r =>
            exfalso
            have hcut := inv.cut
            rw [hdn] at hcut
            have h8 := List.all_eq_true.1 hdep q hqq
            rw [hcut, List.cons_append] at h8
            rw [hpq] at hdp
            simp only [hdp, Bool.not_true, Bool.false_or] at h8
            have hkl := inv.doneIn k (by rw [hdn]; simp)
            obtain ⟨ok, hok⟩ : ∃ ok, ops[k]? = some ok := by
              have := List.all_eq_true.1 hcs k (by rw [hcut]; simp)
              simp only [decide_eq_true_eq] at this
              exact ⟨_, Array.getElem?_eq_getElem this⟩
            have := hBl k ok hok hkl q.1 (by simpa using h8)
            rw [hqi, hif] at this; cases this
        have hr := hstep.runs hOO hlook inv.st
        have next : ∀ v w', p.2.2.P w' (badOf O c.fg) v → Same w w' → wpAny c.P .any ops Q f (listed.setIfInBounds i true) (a.put o'.dst v) w' := by
          intro v w' hv sm
          refine ih _ _ _ done rest ch O (by have := left_set hils hif ops.size his; omega) ⟨by simp [inv.size], closed', inv.cut, fun j hj => getD_set_true (inv.doneIn j hj), fun j hj => ?_, inv.chIn, inv.steps, inv.own, ?_⟩
          · rw [getD_set_ne false (fun e => hic (by rw [inv.cut, e]; exact List.mem_append_right _ hj))]; exact inv.restOut j hj
          · have s1 := inv.st.same sm
            rw [hd]
            have s2 := s1.put hN hv
            refine ⟨s2.defers, s2.size, s2.sat, s2.frame, fun t A hA => ?_⟩
            by_cases ht : p.2.1 = t
            · have htn : t ∈ namesOf ops o' := by simp [namesOf, hd, ht]
              have : look (ch ++ envL (fun k => (listed.setIfInBounds i true).getD k false) ds env) t = some p.2.2 := by
                rw [look_append, look_none (hchn t htn), envL_congr (L' := fun k => decide (k < i + 1)) ds env env (fun r hr' hrt => ?_) rfl]
                · -- the last that writes it
                  have h1 : ∀ (ds' : Tab) (env' : Env), drawOk.upOk (ds'.map (·.1.1)) = true → p ∈ ds' → look (envL (fun k => decide (k < i + 1)) ds' env') t = some p.2.2 := by
                    intro ds'
                    induction ds' with
                    | nil => intro env' _ h; simp at h
                    | cons r ds' ih' =>
                      intro env' hup' hpr
                      simp only [List.map_cons, drawOk.upOk, Bool.and_eq_true] at hup'
                      simp only [envL]
                      rcases List.mem_cons.1 hpr with rfl | hpr
                      · rw [hp1, decide_eq_true (by omega : i < i + 1), cond_true, envL_none]
                        · exact look_cons_eq ht
                        · intro u hu
                          have := List.all_eq_true.1 hup'.1 u.1.1 (List.mem_map_of_mem (f := fun (x : (Nat × Bool) × (Nat × Asn)) => x.1.1) hu)
                          simp only [decide_eq_true_eq] at this
                          exact decide_eq_false (by omega)
                      · exact ih' _ hup'.2 hpr
                  refine h1 ds env ?_ hpd
                  rw [← hds, List.map_map] at hup
                  exact hup
                · obtain ⟨ok, hok, hdk, _⟩ := htab r hr'
                  show (listed.setIfInBounds i true).getD r.1.1 false = decide (r.1.1 < i + 1)
                  by_cases hri : r.1.1 = i
                  · rw [hri]; simp [hils]
                  · rw [getD_set_ne false (Ne.symm hri)]
                    have h1 := tmps_use htm ho hok (Ne.symm hri) (by rw [hdk, hrt]) htn
                    rcases Nat.lt_or_ge r.1.1 i with hlt | hge
                    · rw [decide_eq_true (by omega)]
                      rw [Nat.max_eq_left (by omega), Nat.min_eq_right (by omega)] at h1
                      exact hB _ h1
                    · rw [decide_eq_false (by omega)]
                      rw [Nat.max_eq_right (by omega), Nat.min_eq_left (by omega)] at h1
                      cases hx : listed.getD r.1.1 false with
                      | false => rfl
                      | true => have := hBl r.1.1 ok hok hx i h1; rw [hif] at this; cases this
              rw [this] at hA
              simp at hA; subst hA
              exact s2.env t p.2.2 (look_cons_eq ht)
            · have : look (ch ++ envL (fun k => (listed.setIfInBounds i true).getD k false) ds env) t = look (ch ++ envL (fun k => listed.getD k false) ds env) t := by
                rw [look_append, look_append, envL_congr (L' := fun k => listed.getD k false) ds env env (fun r hr' hrt => ?_) rfl]
                show (listed.setIfInBounds i true).getD r.1.1 false = listed.getD r.1.1 false
                refine getD_set_ne false fun e => ?_
                -- one number, one row of the table
                have h2 : ∀ (ds' : Tab), drawOk.upOk (ds'.map (·.1.1)) = true → ∀ x ∈ ds', ∀ y ∈ ds', x.1.1 = y.1.1 → x = y := by
                  intro ds'
                  induction ds' with
                  | nil => intro _ x hx; simp at hx
                  | cons u ds' ih' =>
                    intro hup' x hx y hy hxy
                    simp only [List.map_cons, drawOk.upOk, Bool.and_eq_true] at hup'
                    have hlt : ∀ z ∈ ds', u.1.1 < z.1.1 := fun z hz => by
                      have := List.all_eq_true.1 hup'.1 z.1.1 (List.mem_map_of_mem (f := fun (x : (Nat × Bool) × (Nat × Asn)) => x.1.1) hz)
                      simpa using this
                    rcases List.mem_cons.1 hx with hx1 | hx1 <;> rcases List.mem_cons.1 hy with hy1 | hy1
                    · rw [hx1, hy1]
                    · have := hlt y hy1; rw [hx1] at hxy; omega
                    · have := hlt x hx1; rw [hy1] at hxy; omega
                    · exact ih' hup'.2 x hx1 y hy1 hxy
                have := h2 ds (by rw [← hds, List.map_map] at hup; exact hup) p hpd r hr' (by rw [hp1, e])
                subst this
                exact ht hrt
              rw [this] at hA
              exact s2.env t A (by rw [look_cons_ne (p := (p.2.1, p.2.2)) ht]; exact hA)
        unfold wpOp
        simp only [ho]
        split
        · rename_i hw
          rw [if_pos hw] at hr
          exact .inl (hr _ _ fun v w' ⟨hv, sm⟩ => next v w' hv sm)
        · rename_i hw
          rw [if_neg hw] at hr
          exact next undef w (by rw [hr]; rfl) (Same.refl w)

theorem W.draw {id : Nat} {l : List Oper} {env' : Env} (qs : List (Nat × Bool)) (cs : List Nat) (B : List (List Nat)) (hmx : c.P.follows .mixedOrders = true) (hck : drawOk l.toArray qs cs B = true)
    (hs : DSteps c l.toArray O env (qs.filterMap (fun q => (l.toArray[q.1]?).map fun o => (q.2, o))) env') (hc : CSteps c l.toArray Q env' O (cs.filterMap (l.toArray[·]?))) : W c env O (.region id l.toArray true) Q := fun a w s => by
  have hck' := hck
  simp only [drawOk, Bool.and_eq_true] at hck'
  obtain ⟨⟨⟨⟨⟨⟨⟨⟨_, _⟩, _⟩, _⟩, hqs⟩, _⟩, _⟩, hup⟩, _⟩ := hck'
  obtain ⟨ds, hds, he, htab⟩ := DSteps.table qs _ _ _ hup (fun i hi => by
    have := List.all_eq_true.1 hqs i hi
    simp only [Bool.and_eq_true, decide_eq_true_eq] at this
    rw [Array.getElem?_eq_getElem this.1]; rfl) rfl hs
  subst he
  have s1 := s.same (Same.drew w)
  refine wp_region_any hmx ?_
  have h0 : ∀ j, (Array.replicate l.toArray.size false).getD j false = false := getD_replicate_false _
  have hleft : ∀ k, left (Array.replicate l.toArray.size false) k = k := by
    intro k
    induction k with
    | zero => rfl
    | succ k ih => simp only [left]; rw [ih, h0]; rfl
  exact draw_any (c := c) (O0 := O) (env := env) (Q := Q) hck hds htab _ (Array.replicate l.toArray.size false) a _ [] cs [] O (hleft _)
    ⟨by simp, fun j oj _ hl => (by rw [h0] at hl; cases hl), rfl, fun i hi => by simp at hi, fun i _ => h0 i, fun p hp => by simp at hp, hc, fun _ => rfl, by
      rw [List.nil_append, envL_none ds env _ (fun p _ => h0 _)]; exact s1⟩
end
end Go.Abs
