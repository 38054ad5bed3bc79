/- A region that draws its order, where those that write stand in no single order: new ones among them come as they come. -/
import Derived.Test.YthmdmchmmgmblaaGreatAB
namespace Go.Abs
open Go Go.RowKit

def drawOkT (ops : Array Oper) (qs : List (Nat × Bool)) (cs ns : List Nat) (B : List (List Nat)) : Bool :=
  closOk ops B && tmpsOk ops B && ((List.range ops.size).all fun i => (qs.map (·.1)).contains i || cs.contains i) && (qs.all fun i => decide (i.1 < ops.size) && !cs.contains i.1) &&
  (cs.all fun i => decide (i < ops.size)) && (qs.all fun q => cs.all fun k => !(B.getD q.1 []).contains k) && drawOk.upOk (qs.map (·.1)) &&
  (qs.all fun q => !q.2 || cs.all fun k => ns.contains k || (B.getD k []).contains q.1)
inductive DStepT (c : Cx) (ops : Array Oper) (O : List Ent) (env : Env) (o : Oper) : Bool → Asn → Prop
  | p {nd : List (Operand × Asn)} {dep : Bool} {A : Asn} (hg : o.guard = none) (hn : NeedsS env nd) (ht : (ndTmps nd).all (fun t => (namesOf ops o).contains t) = true) (hq : QS c.P nd o A) : DStepT c ops O env o dep A
  | o {nd : List (Operand × Asn)} {A : Asn} (hg : o.guard = none) (hn : NeedsS env nd) (ht : (ndTmps nd).all (fun t => (namesOf ops o).contains t) = true) (hq : ∀ fg, QO c.P fg O nd o A) : DStepT c ops O env o true A
  | gp {g t : Nat} {dep : Bool} {b want : Bool} {nd : List (Operand × Asn)} {A : Asn} (hg : o.guard = some (g, want)) (hd : (ops[g]?).bind (·.dst) = some t) (hl : look env t = some (EqA (.bool b))) (e : b = want)
      (hn : NeedsS env nd) (ht : (ndTmps nd).all (fun t => (namesOf ops o).contains t) = true) (hq : QS c.P nd o A) : DStepT c ops O env o dep A
  | go {g t : Nat} {b want : Bool} {nd : List (Operand × Asn)} {A : Asn} (hg : o.guard = some (g, want)) (hd : (ops[g]?).bind (·.dst) = some t) (hl : look env t = some (EqA (.bool b))) (e : b = want)
      (hn : NeedsS env nd) (ht : (ndTmps nd).all (fun t => (namesOf ops o).contains t) = true) (hq : ∀ fg, QO c.P fg O nd o A) : DStepT c ops O env o true A
  | off {g t : Nat} {dep : Bool} {b want : Bool} (hg : o.guard = some (g, want)) (hd : (ops[g]?).bind (·.dst) = some t) (hl : look env t = some (EqA (.bool b))) (e : b = !want) : DStepT c ops O env o dep UndA
  | und {g t : Nat} {dep : Bool} {want : Bool} (hg : o.guard = some (g, want)) (hd : (ops[g]?).bind (·.dst) = some t) (hl : look env t = some UndA) : DStepT c ops O env o dep UndA
def DStepsT (c : Cx) (ops : Array Oper) (O : List Ent) : Env → List (Bool × Oper) → Env → Prop
  | env, [], env' => env' = env
  | env, o :: rest, env' => ∃ d A, o.2.dst = some d ∧ d < c.N ∧ DStepT c ops O env o.2 o.1 A ∧ DStepsT c ops O ((d, A) :: env) rest env'
theorem DStepsT.nil {c ops O env} : DStepsT c ops O env [] env := rfl
theorem DStepsT.cons {c ops O env} {o : Oper} {dep : Bool} {rest env' d A} (hd : o.dst = some d) (hN : Nat.blt d c.N = true) (h : DStepT c ops O env o dep A) (k : DStepsT c ops O ((d, A) :: env) rest env') : DStepsT c ops O env ((dep, o) :: rest) env' :=
  ⟨d, A, hd, by simpa using hN, h, k⟩

/-- One that writes; 'K': what follows; 'new': it takes nothing of the frame's own. -/
def CStep1 (c : Cx) (ops : Array Oper) (new : Bool) (K : Env → List Ent → Prop) (env : Env) (O : List Ent) (o : Oper) : Prop :=
  o.guard = none ∧ ∃ (is : List Nat) (Oc Or : List Ent) (nd : List (Operand × Asn)) (R : List Ent → Asn → Prop), (new = true → is = []) ∧ pick is O = some (Oc, Or) ∧ NeedsS env nd ∧ (ndTmps nd).all (fun t => (namesOf ops o).contains t) = true ∧ WS c.P Oc nd o R ∧
      ∀ O' A, R O' A → (∀ d, o.dst = some d → d < c.N ∧ K ((d, A) :: env) (O' ++ Or)) ∧ (o.dst = none → K env (O' ++ Or))
def CTc (c : Cx) (ops : Array Oper) (B : List (List Nat)) (ns : List Nat) (K : Nat → Env → List Ent → Prop) (env : Env) (O : List Ent) (rest : List Nat) : List Nat → Prop
  | [] => True
  | i :: is => ((rest.all fun j => !(B.getD i []).contains j) = true → ∃ o, ops[i]? = some o ∧ CStep1 c ops (ns.contains i) (K i) env O o) ∧ CTc c ops B ns K env O rest is
def CT (c : Cx) (ops : Array Oper) (B : List (List Nat)) (ns : List Nat) (Q : Post) : Nat → Env → List Ent → List Nat → Prop
  | _, env, O, [] => QN c env O Q
  | 0, _, _, _ :: _ => False
  | n + 1, env, O, i :: r => CTc c ops B ns (fun k env' O' => CT c ops B ns Q n env' O' ((i :: r).filter fun j => !Nat.beq j k)) env O (i :: r) (i :: r)
theorem CTc.get {c : Cx} {ops : Array Oper} {B : List (List Nat)} {ns : List Nat} {K : Nat → Env → List Ent → Prop} {env : Env} {O : List Ent} {rest : List Nat} : ∀ {l : List Nat} {i : Nat}, CTc c ops B ns K env O rest l → i ∈ l → (rest.all fun j => !(B.getD i []).contains j) = true → ∃ o, ops[i]? = some o ∧ CStep1 c ops (ns.contains i) (K i) env O o
  | k :: l, i, h, hi, hm => by
    rcases List.mem_cons.1 hi with rfl | hi
    · exact h.1 hm
    · exact CTc.get h.2 hi hm
section
variable {c : Cx} {ops : Array Oper} {env : Env} {O Oc Or : List Ent} {o : Oper} {K : Env → List Ent → Prop} {new : Bool}
theorem CStep1.w {d : Nat} (is : List Nat) {nd : List (Operand × Asn)} {R : List Ent → Asn → Prop} (hnew : new = true → is = []) (hp : pick is O = some (Oc, Or)) (hg : o.guard = none) (hd : o.dst = some d) (hN : Nat.blt d c.N = true) (hn : NeedsS env nd)
    (ht : (ndTmps nd).all (fun t => (namesOf ops o).contains t) = true) (hs : WS c.P Oc nd o R) (h : ∀ O' A, R O' A → K ((d, A) :: env) (O' ++ Or)) : CStep1 c ops new K env O o :=
  ⟨hg, is, Oc, Or, nd, R, hnew, hp, hn, ht, hs, fun O' A r => ⟨fun d' e => by rw [hd] at e; simp at e; subst e; exact ⟨by simpa using hN, h O' A r⟩, fun e => by rw [hd] at e; cases e⟩⟩
theorem CStep1.w0 (is : List Nat) {nd : List (Operand × Asn)} {R : List Ent → Asn → Prop} (hnew : new = true → is = []) (hp : pick is O = some (Oc, Or)) (hg : o.guard = none) (hd : o.dst = none) (hn : NeedsS env nd)
    (ht : (ndTmps nd).all (fun t => (namesOf ops o).contains t) = true) (hs : WS c.P Oc nd o R) (h : ∀ O' A, R O' A → K env (O' ++ Or)) : CStep1 c ops new K env O o :=
  ⟨hg, is, Oc, Or, nd, R, hnew, hp, hn, ht, hs, fun O' A r => ⟨fun d' e => (by rw [hd] at e; cases e), fun _ => h O' A r⟩⟩
theorem CStep1.p {d : Nat} {nd : List (Operand × Asn)} {A : Asn} (hg : o.guard = none) (hd : o.dst = some d) (hN : Nat.blt d c.N = true) (hn : NeedsS env nd)
    (ht : (ndTmps nd).all (fun t => (namesOf ops o).contains t) = true) (hq : QS c.P nd o A) (h : K ((d, A) :: env) O) : CStep1 c ops new K env O o :=
  CStep1.w (Oc := []) (Or := O) [] (R := RA A) (fun _ => rfl) rfl hg hd hN hn ht (fun fg a w s n => (hq a w _ s.bad_lt n).mono fun v w' ⟨hv, sm⟩ => ⟨[], A, ⟨rfl, rfl⟩, sm.sat s, sm.frame [], hv⟩)
    (fun O' B ⟨e1, e2⟩ => by subst e1; subst e2; exact h)
theorem CStep1.ro {d : Nat} (is : List Nat) {nd : List (Operand × Asn)} {A : Asn} (hnew : new = true → is = []) (hp : pick is O = some (Oc, Or)) (hg : o.guard = none) (hd : o.dst = some d) (hN : Nat.blt d c.N = true) (hn : NeedsS env nd)
    (ht : (ndTmps nd).all (fun t => (namesOf ops o).contains t) = true) (hq : ∀ fg, QO c.P fg Oc nd o A) (h : K ((d, A) :: env) (Oc ++ Or)) : CStep1 c ops new K env O o :=
  CStep1.w is (R := fun O' B => O' = Oc ∧ B = A) hnew hp hg hd hN hn ht (fun fg a w s n => (hq fg a w s n).mono fun v w' ⟨hv, sm⟩ => ⟨Oc, A, ⟨rfl, rfl⟩, sm.sat s, sm.frame Oc, hv⟩)
    (fun O' B ⟨e1, e2⟩ => by subst e1; subst e2; exact h)
end
theorem CTc.no {c : Cx} {ops : Array Oper} {B : List (List Nat)} {ns : List Nat} {K : Nat → Env → List Ent → Prop} {env : Env} {O : List Ent} {rest : List Nat} {i : Nat} {is : List Nat} (hm : (rest.all fun j => !(B.getD i []).contains j) = false) (h : CTc c ops B ns K env O rest is) : CTc c ops B ns K env O rest (i :: is) :=
  ⟨fun e => (by rw [hm] at e; cases e), h⟩
theorem CTc.yes {c : Cx} {ops : Array Oper} {B : List (List Nat)} {ns : List Nat} {K : Nat → Env → List Ent → Prop} {env : Env} {O : List Ent} {rest : List Nat} {i : Nat} {is : List Nat} {o : Oper} (ho : ops[i]? = some o) (hs : CStep1 c ops (ns.contains i) (K i) env O o) (h : CTc c ops B ns K env O rest is) : CTc c ops B ns K env O rest (i :: is) :=
  ⟨fun _ => ⟨o, ho, hs⟩, h⟩
structure DInvT (c : Cx) (ops : Array Oper) (B : List (List Nat)) (ns : List Nat) (O0 : List Ent) (Q : Post) (cs : List Nat) (ds : Tab) (env : Env) (listed : Array Bool) (a : Act) (w : World) (done : List Nat) (rest : List Nat) (ch : Env) (O : List Ent) : Prop where
  size : listed.size = ops.size
  closed : ∀ j oj, ops[j]? = some oj → listed.getD j false = true → ∀ e ∈ oj.after, Region.binds .any e = true → listed.getD e.on false = true
  mem : ∀ i, i ∈ cs ↔ i ∈ done ∨ i ∈ rest
  doneIn : ∀ i ∈ done, listed.getD i false = true
  restOut : ∀ i ∈ rest, listed.getD i false = false
  chIn : ∀ p ∈ ch, ∃ i ∈ done, (ops[i]?).bind (·.dst) = some p.1
  steps : ∃ n, CT c ops B ns Q n (ch ++ envL (fun _ => true) ds env) O rest
  own : (∀ j ∈ done, j ∈ ns) → ∃ E, O = E ++ O0
  st : St c (ch ++ envL (fun k => listed.getD k false) ds env) O a w
section
variable {c : Cx} {ops : Array Oper} {O : List Ent} {env : Env} {Q : Post}
theorem DStepsT.table {c : Cx} {ops : Array Oper} {O : List Ent} : ∀ (qs : List (Nat × Bool)) (l : List (Bool × Oper)) (env env' : Env), drawOk.upOk (qs.map (·.1)) = true → (∀ i ∈ qs, (ops[i.1]?).isSome = true) →
    l = qs.filterMap (fun q => (ops[q.1]?).map fun o => (q.2, o)) → DStepsT c ops O env l env' →
    ∃ ds : Tab, ds.map (·.1) = qs ∧ env' = envL (fun _ => true) ds env ∧ ∀ p ∈ ds, ∃ o, ops[p.1.1]? = some o ∧ o.dst = some p.2.1 ∧ p.2.1 < c.N ∧ DStepT c ops O (envL (fun k => decide (k < p.1.1)) ds env) o p.1.2 p.2.2
  | [], l, env, env', _, _, hl, h => by subst hl; exact ⟨[], rfl, by simpa [DStepsT, envL] using h, fun p hp => by simp at hp⟩
  | i :: qs, l, env, env', hup, hsome, hl, h => by
    obtain ⟨o, ho⟩ := Option.isSome_iff_exists.1 (hsome i (List.mem_cons_self ..))
    rw [List.filterMap_cons, ho] at hl
    subst hl
    obtain ⟨d, A, hd, hN, hs, k⟩ := h
    simp only [List.map_cons, drawOk.upOk, Bool.and_eq_true] at hup
    obtain ⟨ds, hm, he, ht⟩ := DStepsT.table qs _ _ _ hup.2 (fun j hj => hsome j (List.mem_cons_of_mem _ hj)) rfl k
    have hlt : ∀ q ∈ ds, i.1 < q.1.1 := fun q hq => by
      have : q.1 ∈ qs := by rw [← hm]; exact List.mem_map_of_mem hq
      simpa using List.all_eq_true.1 hup.1 q.1.1 (List.mem_map_of_mem this)
    refine ⟨(i, d, A) :: ds, by simp [hm], by simp only [envL, cond_true]; exact he, fun p hp => ?_⟩
    rcases List.mem_cons.1 hp with rfl | hp
    · refine ⟨o, ho, hd, hN, ?_⟩
      simp only [envL, Nat.lt_irrefl, decide_false, cond_false]
      rw [envL_none]
      · exact hs
      · intro q hq; have := hlt q hq; exact decide_eq_false (by omega)
    · obtain ⟨o', h1, h2, h3, h4⟩ := ht p hp
      refine ⟨o', h1, h2, h3, ?_⟩
      simp only [envL]
      rw [decide_eq_true (hlt p hp), cond_true]
      exact h4

theorem QO.among {P : Program} {fg : Bad} {O0 E : List Ent} {nd : List (Operand × Asn)} {o : Oper} {A : Asn} (hq : ∀ fg, QO P fg O0 nd o A) (e : O = E ++ O0) {a : Act} {w : World} (s : Sat w fg O) (n : Opd a w (badOf O fg) nd) :
    Runs P o a w (fun v w' => A.P w' (badOf O fg) v ∧ Same w w') := by
  have hp : (E ++ O0).Perm (O0 ++ E) := List.perm_append_comm
  subst e
  have hb : badOf (E ++ O0) fg = badOf O0 (badOf E fg) := by rw [badOf_append, badOf_perm hp]
  have s1 := (s.perm hp).left
  rw [hb] at n ⊢
  exact hq _ a w s1 n
theorem DStepT.runs {o : Oper} {A : Asn} {dep : Bool} {O0 : List Ent} {envT envL' : Env} (h : DStepT c ops O0 envT o dep A) (hO : dep = true → ∃ E, O = E ++ O0) (hlk : ∀ t ∈ namesOf ops o, look envL' t = look envT t) {a : Act} {w : World}
    (s : St c envL' O a w) : if Region.wanted o (yielded ops a.tmps) = true then Runs c.P o a w (fun v w' => A.P w' (badOf O c.fg) v ∧ Same w w') else A = UndA := by
  have hgd : ∀ g want t, o.guard = some (g, want) → (ops[g]?).bind (·.dst) = some t → t ∈ namesOf ops o := fun g want t hg hd => by simp [namesOf, hg, hd]
  cases h with
  | p hg hn ht hq =>
    rw [if_pos (by simp [Region.wanted, hg])]
    exact hq.o a w s.sat ((needs_same hlk hn ht).needs c O a w s)
  | o hg hn ht hq =>
    rw [if_pos (by simp [Region.wanted, hg])]
    obtain ⟨E, e⟩ := hO rfl
    exact QO.among hq e s.sat ((needs_same hlk hn ht).needs c O a w s)
  | gp hg hd hl2 e hn ht hq =>
    have hw := Wanted.on (ops := ops) (env := envL') hg hd (by rw [hlk _ (hgd _ _ _ hg hd)]; exact hl2) e c O a w s
    rw [if_pos hw]
    exact hq.o a w s.sat ((needs_same hlk hn ht).needs c O a w s)
  | go hg hd hl2 e hn ht hq =>
    have hw := Wanted.on (ops := ops) (env := envL') hg hd (by rw [hlk _ (hgd _ _ _ hg hd)]; exact hl2) e c O a w s
    rw [if_pos hw]
    obtain ⟨E, e⟩ := hO rfl
    exact QO.among hq e s.sat ((needs_same hlk hn ht).needs c O a w s)
  | off hg hd hl2 e =>
    have hw := Unwanted.on (ops := ops) (env := envL') hg hd (by rw [hlk _ (hgd _ _ _ hg hd)]; exact hl2) e c O a w s
    rw [if_neg (by simp [hw])]
  | und hg hd hl2 =>
    have hw := Unwanted.und (ops := ops) (env := envL') hg hd (by rw [hlk _ (hgd _ _ _ hg hd)]; exact hl2) c O a w s
    rw [if_neg (by simp [hw])]

theorem draw_tree {qs : List (Nat × Bool)} {cs ns : List Nat} {B : List (List Nat)} {O0 : List Ent} (hck : drawOkT ops qs cs ns B = true) {ds : Tab} (hds : ds.map (·.1) = qs)
    (htab : ∀ p ∈ ds, ∃ o, ops[p.1.1]? = some o ∧ o.dst = some p.2.1 ∧ p.2.1 < c.N ∧ DStepT c ops O0 (envL (fun k => decide (k < p.1.1)) ds env) o p.1.2 p.2.2) :
    ∀ (f : Nat) (listed : Array Bool) (a : Act) (w : World) (done rest : List Nat) (ch : Env) (O : List Ent), left listed ops.size = f → DInvT c ops B ns O0 Q cs ds env listed a w done rest ch O → wpAny c.P .any ops Q f listed a w := by
  simp only [drawOkT, Bool.and_eq_true] at hck
  obtain ⟨⟨⟨⟨⟨⟨⟨hcl, htm⟩, hpart⟩, hqs⟩, hcs⟩, hqc⟩, hup⟩, hdep⟩ := hck
  intro f
  induction f with
  | zero =>
    intro listed a w done rest ch O hf inv
    have hall := left_zero _ hf
    refine ⟨?_, ?_⟩
    · rw [List.eq_nil_iff_forall_not_mem]
      intro i hi
      obtain ⟨hun, o, ho, _⟩ := mem_ready.1 hi
      have his := (Array.getElem?_eq_some_iff.1 ho).1
      have h1 := hall i his
      have h2 : i < listed.size := by rw [inv.size]; exact his
      simp [h2] at h1 hun
      rw [h1] at hun; cases hun
    · have hr : rest = [] := by
        cases hr : rest with
        | nil => rfl
        | cons i r =>
          have h1 := inv.restOut i (by rw [hr]; simp)
          have h2 : i < ops.size := by
            have := List.all_eq_true.1 hcs i ((inv.mem i).2 (.inr (by rw [hr]; simp)))
            simpa using this
          rw [hall i h2] at h1; cases h1
      obtain ⟨n, hst⟩ := inv.steps
      rw [hr] at hst
      have hst : QN c (ch ++ envL (fun _ => true) ds env) O Q := by cases n <;> exact hst
      have he : ∀ t, look (ch ++ envL (fun k => listed.getD k false) ds env) t = look (ch ++ envL (fun _ => true) ds env) t := fun t => by
        rw [look_append, look_append, envL_congr (L' := fun _ => true) ds env env (fun p hp _ => ?_) rfl]
        obtain ⟨o, ho, _⟩ := htab p hp
        exact hall _ (Array.getElem?_eq_some_iff.1 ho).1
      exact hst a w ⟨inv.st.defers, inv.st.size, inv.st.sat, inv.st.frame, fun t A hA => inv.st.env t A (by rw [he]; exact hA)⟩
  | succ f ih =>
    intro listed a w done rest ch O hf inv
    refine ⟨fun h0 => ?_, fun i hi => ?_⟩
    · obtain ⟨j, hj, hjf, hjk⟩ := left_pos ops.size (by omega : left listed ops.size ≠ 0)
      obtain ⟨oj, hoj⟩ : ∃ oj, ops[j]? = some oj := ⟨ops[j], Array.getElem?_eq_getElem hj⟩
      have : j ∈ Region.ready .any ops listed := by
        refine mem_ready.2 ⟨?_, oj, hoj, fun e he hb => ?_⟩
        · have h2 : j < listed.size := by rw [inv.size]; exact hj
          simpa [h2] using hjf
        · have h1 := List.all_eq_true.1 hcl j (List.mem_range.2 hj)
          simp only [hoj, Bool.and_eq_true] at h1
          have h2 := Array.all_eq_true_iff_forall_mem.1 h1.1 e he
          simp only [hb, Bool.not_true, Bool.false_or, decide_eq_true_eq] at h2
          exact hjk _ h2
      rw [h0] at this
      simp at this
    · obtain ⟨hun, o, ho, hpre⟩ := mem_ready.1 hi
      have his : i < ops.size := (Array.getElem?_eq_some_iff.1 ho).1
      have hils : i < listed.size := by rw [inv.size]; exact his
      have hif : listed.getD i false = false := by simpa [hils] using hun
      have hB := clos_in hcl inv.closed i o ho hpre
      have hBl : ∀ k ok, ops[k]? = some ok → listed.getD k false = true → ∀ j ∈ B.getD k [], listed.getD j false = true := fun k ok hk hl => clos_in hcl inv.closed k ok hk (fun e he hb => inv.closed k ok hk hl e he hb)
      have closed' : ∀ j oj, ops[j]? = some oj → (listed.setIfInBounds i true).getD j false = true → ∀ e ∈ oj.after, Region.binds .any e = true → (listed.setIfInBounds i true).getD e.on false = true := by
        intro j oj hj hl e he hb
        by_cases hij : i = j
        · subst hij
          have : oj = o := Option.some.inj (hj.symm.trans ho)
          subst this
          exact getD_set_true (hpre e he hb)
        · rw [getD_set_ne false hij] at hl
          exact getD_set_true (inv.closed j oj hj hl e he hb)
      -- a slot that it names: who writes it, of those behind
      have apart : ∀ k ok t, ops[k]? = some ok → ok.dst = some t → t ∈ namesOf ops o → k ≠ i → (listed.getD k false = true → k ∈ B.getD i []) ∧ (k ∈ B.getD i [] ∨ i ∈ B.getD k []) := by
        intro k ok t hk hd ht hne
        have h1 := tmps_use htm ho hk (Ne.symm hne) hd ht
        rcases Nat.lt_or_ge k i with hlt | hge
        · rw [Nat.max_eq_left (by omega), Nat.min_eq_right (by omega)] at h1
          exact ⟨fun _ => h1, .inl h1⟩
        · rw [Nat.max_eq_right (by omega), Nat.min_eq_left (by omega)] at h1
          refine ⟨fun hl => ?_, .inr h1⟩
          have := hBl k ok hk hl i h1
          rw [hif] at this; cases this
      have hmem : i ∈ qs.map (·.1) ∨ i ∈ cs := by
        have := List.all_eq_true.1 hpart i (List.mem_range.2 his)
        simpa using this
      by_cases hic : i ∈ cs
      · -- one of the chain: the next
        have hir : i ∈ rest := by
          rcases (inv.mem i).1 hic with h | h
          · have := inv.doneIn i h; rw [hif] at this; cases this
          · exact h
        have hmin : (rest.all fun j => !(B.getD i []).contains j) = true := List.all_eq_true.2 fun j hj => by
          cases hc : (B.getD i []).contains j with
          | false => rfl
          | true =>
            have := hB j (by simpa using hc)
            rw [inv.restOut j hj] at this; cases this
        obtain ⟨n, hst⟩ := inv.steps
        obtain ⟨m, hst⟩ : ∃ m, ∃ o, ops[i]? = some o ∧ CStep1 c ops (ns.contains i) (fun env' O' => CT c ops B ns Q m env' O' (rest.filter fun j => !Nat.beq j i)) (ch ++ envL (fun _ => true) ds env) O o := by
          cases hr : rest with
          | nil => rw [hr] at hir; simp at hir
          | cons x r =>
            rw [hr] at hst hir hmin
            cases n with
            | zero => exact hst.elim
            | succ m => exact ⟨m, CTc.get hst hir hmin⟩
        obtain ⟨o', ho', hst⟩ := hst
        have e1 : o = o' := Option.some.inj (ho.symm.trans ho')
        subst e1
        obtain ⟨hg, is, Oc, Or, nd, R, hnew, hp, hn, htn, hws, hk⟩ := hst
        -- the slots that it names read as behind all the quiet ones
        have hlook : ∀ t ∈ namesOf ops o, look (ch ++ envL (fun k => listed.getD k false) ds env) t = look (ch ++ envL (fun _ => true) ds env) t := fun t ht => by
          rw [look_append, look_append, envL_congr (L' := fun _ => true) ds env env (fun p hp' hpt => ?_) rfl]
          obtain ⟨ok, hok, hdk, _⟩ := htab p hp'
          have hpq : p.1 ∈ qs := by rw [← hds]; exact List.mem_map_of_mem hp'
          have hne : p.1.1 ≠ i := fun e => by
            have := List.all_eq_true.1 hqs p.1 hpq
            simp only [Bool.and_eq_true, Bool.not_eq_true'] at this
            have h3 : cs.contains p.1.1 = true := by rw [e]; simpa using hic
            rw [h3] at this; cases this.2
          rcases (apart p.1.1 ok t hok (by rw [hdk, hpt]) ht hne).2 with h | h
          · exact hB _ h
          · exfalso
            have h4 := List.all_eq_true.1 (List.all_eq_true.1 hqc p.1 hpq) i hic
            simp only [Bool.not_eq_true'] at h4
            have : (B.getD p.1.1 []).contains i = true := by simpa using h
            rw [this] at h4; cases h4
        have hn' := needs_same hlook hn htn
        have s1 : St c _ (Oc ++ Or) a w := inv.st.perm (perm_pick hp)
        have hO : Opd a w (badOf Oc (badOf Or c.fg)) nd := by rw [badOf_append]; exact hn'.needs c _ a w s1
        have hrun := hws (badOf Or c.fg) a w s1.sat.left hO
        have hmem' : ∀ j, j ∈ cs ↔ j ∈ done ++ [i] ∨ j ∈ rest.filter (fun j => !Nat.beq j i) := fun j => by
          rw [inv.mem j, List.mem_append, List.mem_singleton, List.mem_filter]
          by_cases hj : j = i
          · subst hj; exact ⟨fun _ => .inl (.inr rfl), fun _ => .inr hir⟩
          · have hb : Nat.beq j i = false := by
              cases hb : Nat.beq j i with
              | false => rfl
              | true => exact absurd (Nat.eq_of_beq_eq_true hb) hj
            simp [hj, hb]
        have hrest' : ∀ j ∈ rest.filter (fun j => !Nat.beq j i), j ∈ rest ∧ i ≠ j := fun j hj => by
          obtain ⟨h1, h2⟩ := List.mem_filter.1 hj
          exact ⟨h1, fun e => by subst e; simp at h2⟩
        have hown' : ∀ O', (∀ j ∈ done ++ [i], j ∈ ns) → ∃ E, O' ++ Or = E ++ O0 := fun O' hn => by
          have hi' := hn i (by simp)
          have his' := hnew (by simpa using hi')
          subst his'
          simp only [pick, Option.some.injEq, Prod.mk.injEq] at hp
          obtain ⟨_, rfl⟩ := hp
          obtain ⟨E, hE⟩ := inv.own (fun j hj => hn j (by simp [hj]))
          exact ⟨O' ++ E, by rw [hE, List.append_assoc]⟩
        unfold wpOp
        simp only [ho]
        rw [if_pos (by simp [Region.wanted, hg])]
        refine .inl (hrun _ _ ?_)
        rintro v w' ⟨O', A, hR, s', fr, hA⟩
        have hm := Sat.merge s1.sat s' fr
        have fw := fr.wide (Or := Or)
        have s2 : St c (ch ++ envL (fun k => listed.getD k false) ds env) (O' ++ Or) a w' := ⟨s1.defers, s1.size, hm, s1.frame.trans fw, s1.env.ext (fw.ext c.fg)⟩
        rw [badOf_append] at hA
        obtain ⟨hk1, hk2⟩ := hk O' A hR
        have hle : left (listed.setIfInBounds i true) ops.size = f := by have := left_set hils hif ops.size his; omega
        have hq : ∀ t, look (envL (fun k => (listed.setIfInBounds i true).getD k false) ds env) t = look (envL (fun k => listed.getD k false) ds env) t := fun t =>
          envL_congr ds env env (fun p hp' _ => by
            have hpq : p.1 ∈ qs := by rw [← hds]; exact List.mem_map_of_mem hp'
            have hne : i ≠ p.1.1 := fun e => by
              have := List.all_eq_true.1 hqs p.1 hpq
              simp only [Bool.and_eq_true, Bool.not_eq_true'] at this
              have h3 : cs.contains p.1.1 = true := by rw [← e]; simpa using hic
              rw [h3] at this; cases this.2
            show (listed.setIfInBounds i true).getD p.1.1 false = listed.getD p.1.1 false
            exact getD_set_ne false hne) rfl
        cases hd : o.dst with
        | none =>
          have hk2 := hk2 hd
          refine ih _ _ _ (done ++ [i]) _ ch (O' ++ Or) hle ⟨by simp [inv.size], closed', hmem', fun j hj => ?_, fun j hj => ?_, fun p hp' => ?_, ⟨m, hk2⟩, hown' O', ?_⟩
          · rcases List.mem_append.1 hj with h | h
            · exact getD_set_true (inv.doneIn j h)
            · simp at h; subst h; simp [hils]
          · rw [getD_set_ne false (hrest' j hj).2]; exact inv.restOut j (hrest' j hj).1
          · obtain ⟨j, hj, hjd⟩ := inv.chIn p hp'; exact ⟨j, by simp [hj], hjd⟩
          · exact ⟨s2.defers, s2.size, s2.sat, s2.frame, fun t B hB' => s2.env t B (by rw [look_append] at hB' ⊢; rw [hq] at hB'; exact hB')⟩
        | some d =>
          obtain ⟨hN, hk1⟩ := hk1 d hd
          have s3 := s2.put hN hA
          refine ih _ _ _ (done ++ [i]) _ ((d, A) :: ch) (O' ++ Or) hle ⟨by simp [inv.size], closed', hmem', fun j hj => ?_, fun j hj => ?_, fun p hp' => ?_, ⟨m, hk1⟩, hown' O', ?_⟩
          · rcases List.mem_append.1 hj with h | h
            · exact getD_set_true (inv.doneIn j h)
            · simp at h; subst h; simp [hils]
          · rw [getD_set_ne false (hrest' j hj).2]; exact inv.restOut j (hrest' j hj).1
          · rcases List.mem_cons.1 hp' with rfl | hp'
            · exact ⟨i, by simp, by simp [ho, hd]⟩
            · obtain ⟨j, hj, hjd⟩ := inv.chIn p hp'; exact ⟨j, by simp [hj], hjd⟩
          · refine ⟨s3.defers, s3.size, s3.sat, s3.frame, fun t B hB' => s3.env t B ?_⟩
            by_cases hdt : d = t
            · rw [List.cons_append, look_cons_eq (p := (d, A)) hdt] at hB'
              rw [look_cons_eq (p := (d, A)) hdt]; exact hB'
            · rw [List.cons_append, look_cons_ne (p := (d, A)) hdt] at hB'
              rw [look_cons_ne (p := (d, A)) hdt]
              rw [look_append] at hB' ⊢; rw [hq] at hB'; exact hB'
      · -- a quiet one
        have hiq : i ∈ qs.map (·.1) := hmem.resolve_right hic
        obtain ⟨q, hqq, hqi⟩ := List.mem_map.1 hiq
        obtain ⟨p, hpd, hpq⟩ : ∃ p ∈ ds, p.1 = q := by rw [← hds] at hqq; exact List.mem_map.1 hqq
        have hp1 : p.1.1 = i := by rw [hpq]; exact hqi
        obtain ⟨o', ho', hd, hN, hstep⟩ := htab p hpd
        rw [hp1] at ho' hstep
        have : o' = o := Option.some.inj (ho'.symm.trans ho)
        subst this
        have hchn : ∀ t ∈ namesOf ops o', ∀ u ∈ ch, u.1 ≠ t := fun t ht u hu hut => by
          obtain ⟨k, hk, hkd⟩ := inv.chIn u hu
          have hkl := inv.doneIn k hk
          obtain ⟨ok, hok, hokd⟩ : ∃ ok, ops[k]? = some ok ∧ ok.dst = some u.1 := by
            cases hx : ops[k]? with
            | none => rw [hx] at hkd; simp at hkd
            | some ok => rw [hx] at hkd; exact ⟨ok, rfl, by simpa using hkd⟩
          have hki : k ≠ i := fun e => by rw [e, hif] at hkl; cases hkl
          have h6 := (apart k ok t hok (by rw [hokd, hut]) ht hki).1 hkl
          have h4 := List.all_eq_true.1 (List.all_eq_true.1 hqc q hqq) k ((inv.mem k).2 (.inl hk))
          simp only [Bool.not_eq_true', hqi] at h4
          have : (B.getD i []).contains k = true := by simpa using h6
          rw [this] at h4; cases h4
        have hlook : ∀ t ∈ namesOf ops o', look (ch ++ envL (fun k => listed.getD k false) ds env) t = look (envL (fun k => decide (k < i)) ds env) t := fun t ht => by
          rw [look_append, look_none (hchn t ht)]
          refine envL_congr ds env env (fun r hr' hrt => ?_) rfl
          obtain ⟨ok, hok, hdk, _⟩ := htab r hr'
          by_cases hri : r.1.1 = i
          · show listed.getD r.1.1 false = decide (r.1.1 < i)
            rw [hri, hif]; simp
          · have h7 := apart r.1.1 ok t hok (by rw [hdk, hrt]) ht hri
            show listed.getD r.1.1 false = decide (r.1.1 < i)
            have h1 := tmps_use htm ho hok (Ne.symm hri) (by rw [hdk, hrt]) ht
            rcases Nat.lt_or_ge r.1.1 i with hlt | hge
            · rw [decide_eq_true hlt]
              rw [Nat.max_eq_left (by omega), Nat.min_eq_right (by omega)] at h1
              exact hB _ h1
            · rw [decide_eq_false (by omega)]
              rw [Nat.max_eq_right (by omega), Nat.min_eq_left (by omega)] at h1
              cases hx : listed.getD r.1.1 false with
              | false => rfl
              | true => have := hBl r.1.1 ok hok hx i h1; rw [hif] at this; cases this
        have hOO : p.1.2 = true → ∃ E, O = E ++ O0 := fun hdp => inv.own fun k hk => by
          have h8 := List.all_eq_true.1 hdep q hqq
          rw [hpq] at hdp
          simp only [hdp, Bool.not_true, Bool.false_or] at h8
          have hkc : k ∈ cs := (inv.mem k).2 (.inl hk)
          have h9 := List.all_eq_true.1 h8 k hkc
          simp only [Bool.or_eq_true] at h9
          rcases h9 with h9 | h9
          · simpa using h9
          · exfalso
            have hkl := inv.doneIn k hk
            obtain ⟨ok, hok⟩ : ∃ ok, ops[k]? = some ok := by
              have := List.all_eq_true.1 hcs k hkc
              simp only [decide_eq_true_eq] at this
              exact ⟨_, Array.getElem?_eq_getElem this⟩
            have := hBl k ok hok hkl q.1 (by simpa using h9)
            rw [hqi, hif] at this; cases this
        have hr := hstep.runs hOO hlook inv.st
        have next : ∀ v w', p.2.2.P w' (badOf O c.fg) v → Same w w' → wpAny c.P .any ops Q f (listed.setIfInBounds i true) (a.put o'.dst v) w' := by
          intro v w' hv sm
          refine ih _ _ _ done rest ch O (by have := left_set hils hif ops.size his; omega) ⟨by simp [inv.size], closed', inv.mem, fun j hj => getD_set_true (inv.doneIn j hj), fun j hj => ?_, inv.chIn, inv.steps, inv.own, ?_⟩
          · rw [getD_set_ne false (fun e => hic ((inv.mem i).2 (.inr (by rw [e]; exact hj))))]; exact inv.restOut j hj
          · have s1 := inv.st.same sm
            rw [hd]
            have s2 := s1.put hN hv
            refine ⟨s2.defers, s2.size, s2.sat, s2.frame, fun t A hA => ?_⟩
            by_cases ht : p.2.1 = t
            · have htn : t ∈ namesOf ops o' := by simp [namesOf, hd, ht]
              have : look (ch ++ envL (fun k => (listed.setIfInBounds i true).getD k false) ds env) t = some p.2.2 := by
                rw [look_append, look_none (hchn t htn), envL_congr (L' := fun k => decide (k < i + 1)) ds env env (fun r hr' hrt => ?_) rfl]
                · -- the last that writes it
                  have h1 : ∀ (ds' : Tab) (env' : Env), drawOk.upOk (ds'.map (·.1.1)) = true → p ∈ ds' → look (envL (fun k => decide (k < i + 1)) ds' env') t = some p.2.2 := by
                    intro ds'
                    induction ds' with
                    | nil => intro env' _ h; simp at h
                    | cons r ds' ih' =>
                      intro env' hup' hpr
                      simp only [List.map_cons, drawOk.upOk, Bool.and_eq_true] at hup'
                      simp only [envL]
                      rcases List.mem_cons.1 hpr with rfl | hpr
                      · rw [hp1, decide_eq_true (by omega : i < i + 1), cond_true, envL_none]
                        · exact look_cons_eq ht
                        · intro u hu
                          have := List.all_eq_true.1 hup'.1 u.1.1 (List.mem_map_of_mem (f := fun (x : (Nat × Bool) × (Nat × Asn)) => x.1.1) hu)
                          simp only [decide_eq_true_eq] at this
                          exact decide_eq_false (by omega)
                      · exact ih' _ hup'.2 hpr
                  refine h1 ds env ?_ hpd
                  rw [← hds, List.map_map] at hup
                  exact hup
                · obtain ⟨ok, hok, hdk, _⟩ := htab r hr'
                  show (listed.setIfInBounds i true).getD r.1.1 false = decide (r.1.1 < i + 1)
                  by_cases hri : r.1.1 = i
                  · rw [hri]; simp [hils]
                  · rw [getD_set_ne false (Ne.symm hri)]
                    have h1 := tmps_use htm ho hok (Ne.symm hri) (by rw [hdk, hrt]) htn
                    rcases Nat.lt_or_ge r.1.1 i with hlt | hge
                    · rw [decide_eq_true (by omega)]
                      rw [Nat.max_eq_left (by omega), Nat.min_eq_right (by omega)] at h1
                      exact hB _ h1
                    · rw [decide_eq_false (by omega)]
                      rw [Nat.max_eq_right (by omega), Nat.min_eq_left (by omega)] at h1
                      cases hx : listed.getD r.1.1 false with
                      | false => rfl
                      | true => have := hBl r.1.1 ok hok hx i h1; rw [hif] at this; cases this
              rw [this] at hA
              simp at hA; subst hA
              exact s2.env t p.2.2 (look_cons_eq ht)
            · have : look (ch ++ envL (fun k => (listed.setIfInBounds i true).getD k false) ds env) t = look (ch ++ envL (fun k => listed.getD k false) ds env) t := by
                rw [look_append, look_append, envL_congr (L' := fun k => listed.getD k false) ds env env (fun r hr' hrt => ?_) rfl]
                show (listed.setIfInBounds i true).getD r.1.1 false = listed.getD r.1.1 false
                refine getD_set_ne false fun e => ?_
                -- one number, one row of the table
                have h2 : ∀ (ds' : Tab), drawOk.upOk (ds'.map (·.1.1)) = true → ∀ x ∈ ds', ∀ y ∈ ds', x.1.1 = y.1.1 → x = y := by
                  intro ds'
                  induction ds' with
                  | nil => intro _ x hx; simp at hx
                  | cons u ds' ih' =>
                    intro hup' x hx y hy hxy
                    simp only [List.map_cons, drawOk.upOk, Bool.and_eq_true] at hup'
                    have hlt : ∀ z ∈ ds', u.1.1 < z.1.1 := fun z hz => by
                      have := List.all_eq_true.1 hup'.1 z.1.1 (List.mem_map_of_mem (f := fun (x : (Nat × Bool) × (Nat × Asn)) => x.1.1) hz)
                      simpa using this
                    rcases List.mem_cons.1 hx with hx1 | hx1 <;> rcases List.mem_cons.1 hy with hy1 | hy1
                    · rw [hx1, hy1]
                    · have := hlt y hy1; rw [hx1] at hxy; omega
                    · have := hlt x hx1; rw [hy1] at hxy; omega
                    · exact ih' hup'.2 x hx1 y hy1 hxy
                have := h2 ds (by rw [← hds, List.map_map] at hup; exact hup) p hpd r hr' (by rw [hp1, e])
                subst this
                exact ht hrt
              rw [this] at hA
              exact s2.env t A (by rw [look_cons_ne (p := (p.2.1, p.2.2)) ht]; exact hA)
        unfold wpOp
        simp only [ho]
        split
        · rename_i hw
          rw [if_pos hw] at hr
          exact .inl (hr _ _ fun v w' ⟨hv, sm⟩ => next v w' hv sm)
        · rename_i hw
          rw [if_neg hw] at hr
          exact next undef w (by rw [hr]; rfl) (Same.refl w)

theorem W.drawT {id : Nat} {l : List Oper} {env' : Env} (qs : List (Nat × Bool)) (cs ns : List Nat) (n : Nat) (B : List (List Nat)) (hmx : c.P.follows .mixedOrders = true) (hck : drawOkT l.toArray qs cs ns B = true)
    (hs : DStepsT c l.toArray O env (qs.filterMap (fun q => (l.toArray[q.1]?).map fun o => (q.2, o))) env') (hc : CT c l.toArray B ns Q n env' O cs) : W c env O (.region id l.toArray true) Q := fun a w s => by
  have hck' := hck
  simp only [drawOkT, Bool.and_eq_true] at hck'
  obtain ⟨⟨⟨⟨⟨⟨⟨_, _⟩, _⟩, hqs⟩, _⟩, _⟩, hup⟩, _⟩ := hck'
  obtain ⟨ds, hds, he, htab⟩ := DStepsT.table qs _ _ _ hup (fun i hi => by
    have := List.all_eq_true.1 hqs i hi
    simp only [Bool.and_eq_true, decide_eq_true_eq] at this
    rw [Array.getElem?_eq_getElem this.1]; rfl) rfl hs
  subst he
  have s1 := s.same (Same.drew w)
  refine wp_region_any hmx ?_
  have h0 : ∀ j, (Array.replicate l.toArray.size false).getD j false = false := getD_replicate_false _
  have hleft : ∀ k, left (Array.replicate l.toArray.size false) k = k := by
    intro k
    induction k with
    | zero => rfl
    | succ k ih => simp only [left]; rw [ih, h0]; rfl
  exact draw_tree (c := c) (O0 := O) (env := env) (Q := Q) hck hds htab _ (Array.replicate l.toArray.size false) a _ [] cs [] O (hleft _)
    ⟨by simp, fun j oj _ hl => (by rw [h0] at hl; cases hl), fun i => by simp, fun i hi => by simp at hi, fun i _ => h0 i, fun p hp => by simp at hp, ⟨n, hc⟩, fun _ => ⟨[], rfl⟩, by
      rw [List.nil_append, envL_none ds env _ (fun p _ => h0 _)]; exact s1⟩
end
section
variable {c : Cx} {ops : Array Oper} {B : List (List Nat)} {ns : List Nat} {Q : Post} {env : Env} {O : List Ent}
theorem CT.step {n i : Nat} {r : List Nat} (h : CTc c ops B ns (fun k env' O' => CT c ops B ns Q n env' O' ((i :: r).filter fun j => !Nat.beq j k)) env O (i :: r) (i :: r)) : CT c ops B ns Q (n + 1) env O (i :: r) := h
theorem CT.list {n : Nat} {l l' : List Nat} (e : l = l') (h : CT c ops B ns Q n env O l') : CT c ops B ns Q n env O l := e ▸ h
theorem CT.nil {n : Nat} (h : QN c env O Q) : CT c ops B ns Q n env O [] := by cases n <;> exact h
theorem CTc.end {K : Nat → Env → List Ent → Prop} {rest : List Nat} : CTc c ops B ns K env O rest [] := trivial
end
/-- The quiet ones one by one, and what then follows. -/
def DK (c : Cx) (ops : Array Oper) (O : List Ent) (K : Env → Prop) : Env → List (Bool × Oper) → Prop
  | env, [] => K env
  | env, o :: rest => ∃ d A, o.2.dst = some d ∧ d < c.N ∧ DStep c ops O env o.2 o.1 A ∧ DK c ops O K ((d, A) :: env) rest
theorem DK.steps {c : Cx} {ops : Array Oper} {O : List Ent} {K : Env → Prop} : ∀ {l : List (Bool × Oper)} {env : Env}, DK c ops O K env l → ∃ env', DSteps c ops O env l env' ∧ K env'
  | [], env, h => ⟨env, rfl, h⟩
  | o :: l, env, ⟨d, A, h1, h2, h3, h4⟩ => by
    obtain ⟨env', k1, k2⟩ := DK.steps h4
    exact ⟨env', ⟨d, A, h1, h2, h3, k1⟩, k2⟩
theorem DK.nil {c : Cx} {ops : Array Oper} {O : List Ent} {K : Env → Prop} {env : Env} (h : K env) : DK c ops O K env [] := h
theorem DK.cons {c : Cx} {ops : Array Oper} {O : List Ent} {K : Env → Prop} {env : Env} {o : Oper} {dep : Bool} {rest d A} (hd : o.dst = some d) (hN : Nat.blt d c.N = true) (h : DStep c ops O env o dep A) (k : DK c ops O K ((d, A) :: env) rest) : DK c ops O K env ((dep, o) :: rest) :=
  ⟨d, A, hd, by simpa using hN, h, k⟩
def DKT (c : Cx) (ops : Array Oper) (O : List Ent) (K : Env → Prop) : Env → List (Bool × Oper) → Prop
  | env, [] => K env
  | env, o :: rest => ∃ d A, o.2.dst = some d ∧ d < c.N ∧ DStepT c ops O env o.2 o.1 A ∧ DKT c ops O K ((d, A) :: env) rest
theorem DKT.steps {c : Cx} {ops : Array Oper} {O : List Ent} {K : Env → Prop} : ∀ {l : List (Bool × Oper)} {env : Env}, DKT c ops O K env l → ∃ env', DStepsT c ops O env l env' ∧ K env'
  | [], env, h => ⟨env, rfl, h⟩
  | o :: l, env, ⟨d, A, h1, h2, h3, h4⟩ => by
    obtain ⟨env', k1, k2⟩ := DKT.steps h4
    exact ⟨env', ⟨d, A, h1, h2, h3, k1⟩, k2⟩
theorem DKT.nil {c : Cx} {ops : Array Oper} {O : List Ent} {K : Env → Prop} {env : Env} (h : K env) : DKT c ops O K env [] := h
theorem DKT.cons {c : Cx} {ops : Array Oper} {O : List Ent} {K : Env → Prop} {env : Env} {o : Oper} {dep : Bool} {rest d A} (hd : o.dst = some d) (hN : Nat.blt d c.N = true) (h : DStepT c ops O env o dep A) (k : DKT c ops O K ((d, A) :: env) rest) : DKT c ops O K env ((dep, o) :: rest) :=
  ⟨d, A, hd, by simpa using hN, h, k⟩
section
variable {c : Cx} {env : Env} {O : List Ent} {Q : Post}
theorem W.drawK {id : Nat} {l : List Oper} (qs : List (Nat × Bool)) (cs : List Nat) (B : List (List Nat)) (hmx : c.P.follows .mixedOrders = true) (hck : drawOk l.toArray qs cs B = true)
    (h : DK c l.toArray O (fun env' => CSteps c l.toArray Q env' O (cs.filterMap (l.toArray[·]?))) env (qs.filterMap (fun q => (l.toArray[q.1]?).map fun o => (q.2, o)))) : W c env O (.region id l.toArray true) Q := by
  obtain ⟨env', h1, h2⟩ := DK.steps h
  exact W.draw qs cs B hmx hck h1 h2
theorem W.drawKT {id : Nat} {l : List Oper} (qs : List (Nat × Bool)) (cs ns : List Nat) (n : Nat) (B : List (List Nat)) (hmx : c.P.follows .mixedOrders = true) (hck : drawOkT l.toArray qs cs ns B = true)
    (h : DKT c l.toArray O (fun env' => CT c l.toArray B ns Q n env' O cs) env (qs.filterMap (fun q => (l.toArray[q.1]?).map fun o => (q.2, o)))) : W c env O (.region id l.toArray true) Q := by
  obtain ⟨env', h1, h2⟩ := DKT.steps h
  exact W.drawT qs cs ns n B hmx hck h1 h2
end
end Go.Abs
