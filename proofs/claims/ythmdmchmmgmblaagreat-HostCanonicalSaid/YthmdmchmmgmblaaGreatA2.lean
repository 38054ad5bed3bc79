/- Steps that write: owned memory is handed over, turned and handed back; calls; results. -/
import Derived.Test.YthmdmchmmgmblaaGreatA1
namespace Go.Abs
open Go Go.RowKit

/-! ### Parts of owned memory -/
theorem keys_append (A B : List Ent) : keys (A ++ B) = keys A ++ keys B := by simp [keys]
theorem keys_perm {A B : List Ent} (h : A.Perm B) : (keys A).Perm (keys B) := List.Perm.flatMap_right _ h
theorem badOf_perm {A B : List Ent} (h : A.Perm B) (fg : Bad) : badOf A fg = badOf B fg := by
  funext b; unfold badOf; rw [(keys_perm h).mem_iff]
theorem badOf_append (A B : List Ent) (fg : Bad) : badOf A (badOf B fg) = badOf (A ++ B) fg := by
  funext b; simp [badOf, keys_append, or_assoc]
theorem Sat.perm {w fg A B} (h : A.Perm B) (s : Sat w fg A) : Sat w fg B :=
  ⟨(keys_perm h).nodup_iff.1 s.nodup, fun b hb => s.out b ((keys_perm h).mem_iff.2 hb), s.lt, fun e he => badOf_perm h fg ▸ s.holds e (h.mem_iff.2 he)⟩
theorem Sat.left {w fg A B} (s : Sat w fg (A ++ B)) : Sat w (badOf B fg) A := by
  have hn := s.nodup
  rw [keys_append, List.nodup_append] at hn
  refine ⟨hn.1, fun b hb x => ?_, fun b hb => s.bad_lt b (by rw [← badOf_append]; exact .inr hb), fun e he => by rw [badOf_append]; exact s.holds e (List.mem_append_left _ he)⟩
  rcases x with x | x
  · exact hn.2.2 b hb b x rfl
  · exact s.out b (by rw [keys_append]; exact List.mem_append_left _ hb) x
theorem Frame.keep_other {w w' Oc O' Or fg} (f : Frame w Oc w' O') (s : Sat w fg (Oc ++ Or)) : ∀ b, b ∈ keys Or → w'.heap[b]? = w.heap[b]? ∧ b ∉ keys O' := fun b hb => by
  have hn := s.nodup
  rw [keys_append, List.nodup_append] at hn
  have hlt : b < w.heap.size := s.key_lt b (by rw [keys_append]; exact List.mem_append_right _ hb)
  exact f.keep b hlt fun x => hn.2.2 b x b hb rfl
theorem Frame.wide {w w' Oc O' Or} (f : Frame w Oc w' O') : Frame w (Oc ++ Or) w' (O' ++ Or) :=
  ⟨f.os, f.tape, f.output, f.size, fun b hb nb => by
    rw [keys_append, List.mem_append, not_or] at nb
    obtain ⟨h1, h2⟩ := f.keep b hb nb.1
    exact ⟨h1, by rw [keys_append, List.mem_append, not_or]; exact ⟨h2, nb.2⟩⟩⟩
theorem Sat.merge {w w' fg Oc O' Or} (s : Sat w fg (Oc ++ Or)) (s' : Sat w' (badOf Or fg) O') (f : Frame w Oc w' O') : Sat w' fg (O' ++ Or) := by
  have hn := s.nodup
  rw [keys_append, List.nodup_append] at hn
  refine ⟨?_, fun b hb x => ?_, fun b hb => Nat.lt_of_lt_of_le (s.lt b hb) f.size, fun e he => ?_⟩
  · rw [keys_append, List.nodup_append]
    exact ⟨s'.nodup, hn.2.1, fun a ha b hb e => by subst e; exact (f.keep_other s a hb).2 ha⟩
  · rw [keys_append, List.mem_append] at hb
    rcases hb with hb | hb
    · exact s'.out b hb (.inr x)
    · exact s.out b (by rw [keys_append]; exact List.mem_append_right _ hb) x
  · rcases List.mem_append.1 he with he | he
    · have := s'.holds e he; rwa [badOf_append] at this
    · have hP := s.holds e (List.mem_append_right _ he)
      exact e.ext (f.wide.ext fg) (fun b hb => (f.keep_other s b (List.mem_flatMap.2 ⟨e, he, hb⟩)).1) hP
theorem Sat.sub {w fg A B} (s : Sat w fg (A ++ B)) : Sat w fg B := by
  have hn := s.nodup
  rw [keys_append, List.nodup_append] at hn
  refine ⟨hn.2.1, fun b hb => s.out b (by rw [keys_append]; exact List.mem_append_right _ hb), s.lt, fun e he => e.ext ⟨Nat.le_refl _, fun b _ nb => ⟨rfl, fun x => nb ?_⟩⟩ (fun _ _ => rfl) (s.holds e (List.mem_append_right _ he))⟩
  rw [← badOf_append]; exact .inr x

def pick : List Nat → List Ent → Option (List Ent × List Ent)
  | [], O => some ([], O)
  | i :: is, O => match O[i]? with
    | none => none
    | some e => match pick is (O.eraseIdx i) with
      | none => none
      | some (a, b) => some (e :: a, b)
theorem perm_pick1 : ∀ {O : List Ent} {i : Nat} {e : Ent}, O[i]? = some e → O.Perm (e :: O.eraseIdx i)
  | [], _, _, h => by simp at h
  | x :: O, 0, e, h => by simp at h; subst h; exact List.Perm.refl _
  | x :: O, i + 1, e, h => by
    have ih := perm_pick1 (O := O) (i := i) (e := e) (by simpa using h)
    exact (List.Perm.cons x ih).trans (List.Perm.swap e x _)
theorem perm_pick : ∀ {is : List Nat} {O A B : List Ent}, pick is O = some (A, B) → O.Perm (A ++ B)
  | [], O, A, B, h => by simp only [pick, Option.some.injEq, Prod.mk.injEq] at h; obtain ⟨rfl, rfl⟩ := h; exact List.Perm.refl _
  | i :: is, O, A, B, h => by
    simp only [pick] at h
    split at h
    · simp at h
    · rename_i e he
      split at h
      · simp at h
      · rename_i a b hp
        simp only [Option.some.injEq, Prod.mk.injEq] at h
        obtain ⟨rfl, rfl⟩ := h
        exact (perm_pick1 he).trans (List.Perm.cons e (perm_pick hp))

theorem St.perm {c env A B a w} (h : A.Perm B) (s : St c env A a w) : St c env B a w :=
  ⟨s.defers, s.size, s.sat.perm h, ⟨s.frame.os, s.frame.tape, s.frame.output, s.frame.size, fun b hb nb => ⟨(s.frame.keep b hb nb).1, fun x => (s.frame.keep b hb nb).2 ((keys_perm h).mem_iff.2 x)⟩⟩, by rw [← badOf_perm h]; exact s.env⟩
theorem St.drop {c env A B a w} (s : St c env (A ++ B) a w) : St c env B a w :=
  ⟨s.defers, s.size, s.sat.sub, ⟨s.frame.os, s.frame.tape, s.frame.output, s.frame.size, fun b hb nb => ⟨(s.frame.keep b hb nb).1, fun x => (s.frame.keep b hb nb).2 (by rw [keys_append]; exact List.mem_append_right _ x)⟩⟩,
    s.env.ext ⟨Nat.le_refl _, fun b _ nb => ⟨rfl, fun x => nb (by rw [← badOf_append]; exact .inr x)⟩⟩⟩
section
variable {c : Cx} {env : Env} {O A B : List Ent} {Q : Post} {ops : Array Oper} {l : List Oper}
/-- Owned memory in another order ('is': the places, each counted in what is left), 'drop': the first of them are let go. -/
theorem W.order (is : List Nat) (h : pick is O = some (A, B)) {x : Code} (k : W c env (A ++ B) x Q) : W c env O x Q := fun a w s => k a w (s.perm (perm_pick h))
theorem QN.order (is : List Nat) (h : pick is O = some (A, B)) (k : QN c env (A ++ B) Q) : QN c env O Q := fun a w s => k a w (s.perm (perm_pick h))
theorem QR.order (is : List Nat) (h : pick is O = some (A, B)) (k : QR c env (A ++ B) Q) : QR c env O Q := fun a w s => k a w (s.perm (perm_pick h))
theorem WL.order (is : List Nat) (h : pick is O = some (A, B)) (k : WL c ops env (A ++ B) l Q) : WL c ops env O l Q := fun a w s => k a w (s.perm (perm_pick h))
theorem W.drop (is : List Nat) (h : pick is O = some (A, B)) {x : Code} (k : W c env B x Q) : W c env O x Q := fun a w s => k a w (s.perm (perm_pick h)).drop
theorem QN.drop (is : List Nat) (h : pick is O = some (A, B)) (k : QN c env B Q) : QN c env O Q := fun a w s => k a w (s.perm (perm_pick h)).drop
theorem QR.drop (is : List Nat) (h : pick is O = some (A, B)) (k : QR c env B Q) : QR c env O Q := fun a w s => k a w (s.perm (perm_pick h)).drop
theorem WL.drop (is : List Nat) (h : pick is O = some (A, B)) (k : WL c ops env B l Q) : WL c ops env O l Q := fun a w s => k a w (s.perm (perm_pick h)).drop
end

/-! ### A writing step -/
def WS (P : Program) (Oc : List Ent) (nd : List (Operand × Asn)) (o : Oper) (R : List Ent → Asn → Prop) : Prop :=
  ∀ fg a w, Sat w fg Oc → Opd a w (badOf Oc fg) nd → Runs P o a w fun v w' => ∃ O' A, R O' A ∧ Sat w' fg O' ∧ Frame w Oc w' O' ∧ A.P w' (badOf O' fg) v
section
variable {c : Cx} {env : Env} {O Oc Or : List Ent} {Q : Post} {ops : Array Oper} {rest : List Oper} {o : Oper}
theorem WL.w0 (is : List Nat) {nd : List (Operand × Asn)} {R : List Ent → Asn → Prop} (hp : pick is O = some (Oc, Or)) (hw : Wanted ops env o) (hd : o.dst = none) (hn : Needs env nd) (hs : WS c.P Oc nd o R)
    (h : ∀ O' A, R O' A → WL c ops env (O' ++ Or) rest Q) : WL c ops env O (o :: rest) Q := fun a w s => by
  unfold wpList
  rw [hw c O a w s, if_pos rfl]
  have s1 : St c env (Oc ++ Or) a w := s.perm (perm_pick hp)
  have hO : Opd a w (badOf Oc (badOf Or c.fg)) nd := by rw [badOf_append]; exact hn c _ a w s1
  refine .inl (hs (badOf Or c.fg) a w s1.sat.left hO _ _ ?_)
  rintro v w' ⟨O', A, r, s', f, _⟩
  have hm := Sat.merge s1.sat s' f
  have fw := f.wide (Or := Or)
  rw [hd]
  exact h O' A r _ _ ⟨s1.defers, s1.size, hm, s1.frame.trans fw, s1.env.ext (fw.ext c.fg)⟩
theorem WL.w {d : Nat} (is : List Nat) {nd : List (Operand × Asn)} {R : List Ent → Asn → Prop} (hp : pick is O = some (Oc, Or)) (hw : Wanted ops env o) (hd : o.dst = some d) (hN : Nat.blt d c.N = true) (hn : Needs env nd) (hs : WS c.P Oc nd o R)
    (h : ∀ O' A, R O' A → WL c ops ((d, A) :: env) (O' ++ Or) rest Q) : WL c ops env O (o :: rest) Q := fun a w s => by
  unfold wpList
  rw [hw c O a w s, if_pos rfl]
  have s1 : St c env (Oc ++ Or) a w := s.perm (perm_pick hp)
  have hO : Opd a w (badOf Oc (badOf Or c.fg)) nd := by rw [badOf_append]; exact hn c _ a w s1
  refine .inl (hs (badOf Or c.fg) a w s1.sat.left hO _ _ ?_)
  rintro v w' ⟨O', A, r, s', f, hA⟩
  have hm := Sat.merge s1.sat s' f
  have fw := f.wide (Or := Or)
  have s2 : St c env (O' ++ Or) a w' := ⟨s1.defers, s1.size, hm, s1.frame.trans fw, s1.env.ext (fw.ext c.fg)⟩
  rw [badOf_append] at hA
  rw [hd]
  exact h O' A r _ _ (s2.put (by simpa using hN) hA)
end

/-- One piece of owned memory is turned. -/
structure Turn (w : World) (bs : List Nat) (w' : World) (bs' : List Nat) : Prop where
  os : w'.os = w.os
  tape : w'.tape = w.tape
  output : w'.output = w.output
  size : w.heap.size ≤ w'.heap.size
  keep : ∀ b, b < w.heap.size → b ∉ bs → w'.heap[b]? = w.heap[b]?
  nodup : bs'.Nodup
  new : ∀ b ∈ bs', b ∈ bs ∨ w.heap.size ≤ b
def badTo (bad : Bad) (bs bs' : List Nat) : Bad := fun b => (bad b ∧ b ∉ bs) ∨ b ∈ bs'
theorem Turn.ext {w bs w' bs' bad} (t : Turn w bs w' bs') (hb : ∀ b ∈ bs, bad b) : Ext w bad w' (badTo bad bs bs') :=
  ⟨t.size, fun b hlt nb => ⟨t.keep b hlt fun x => nb (hb b x), fun x => x.elim (fun y => nb y.1) fun y => (t.new b y).elim (fun z => nb (hb b z)) fun z => absurd hlt (by omega)⟩⟩
/-- What a step that turns one piece of owned memory is shown of. -/
theorem WS.turn {P : Program} {e : Ent} {nd : List (Operand × Asn)} {o : Oper} {R : List Ent → Asn → Prop}
    (h : ∀ a w bad, (∀ b, bad b → b < w.heap.size) → (∀ b ∈ e.bs, bad b) → e.P w bad → Opd a w bad nd →
      Runs P o a w fun v w' => ∃ e' A, R [e'] A ∧ Turn w e.bs w' e'.bs ∧ e'.P w' (badTo bad e.bs e'.bs) ∧ A.P w' (badTo bad e.bs e'.bs) v) : WS P [e] nd o R := fun fg a w s n => by
  have hb : ∀ b ∈ e.bs, badOf [e] fg b := fun b hb => .inl (by simpa [keys] using hb)
  refine (h a w (badOf [e] fg) s.bad_lt hb (s.holds e (by simp)) n).mono ?_
  rintro v w' ⟨e', A, r, t, hP, hA⟩
  have hbad : badTo (badOf [e] fg) e.bs e'.bs = badOf [e'] fg := by
    funext b
    simp only [badTo, badOf, keys, List.flatMap_cons, List.flatMap_nil, List.append_nil]
    refine propext ⟨fun x => ?_, fun x => ?_⟩
    · rcases x with ⟨x | x, y⟩ | x
      · exact absurd x y
      · exact .inr x
      · exact .inl x
    · rcases x with x | x
      · exact .inr x
      · exact .inl ⟨.inr x, fun y => s.out b (by simpa [keys] using y) x⟩
  rw [hbad] at hP hA
  refine ⟨[e'], A, r, ⟨by simpa [keys] using t.nodup, fun b hb x => ?_, fun b hb => Nat.lt_of_lt_of_le (s.lt b hb) t.size, fun x hx => by simp at hx; subst hx; exact hP⟩, ⟨t.os, t.tape, t.output, t.size, fun b hlt nb => ?_⟩, hA⟩
  · have hb' : b ∈ e'.bs := by simpa [keys] using hb
    rcases t.new b hb' with y | y
    · exact s.out b (by simpa [keys] using y) x
    · exact absurd (s.lt b x) (by omega)
  · have nb' : b ∉ e.bs := by simpa [keys] using nb
    refine ⟨t.keep b hlt nb', fun x => ?_⟩
    rcases t.new b (by simpa [keys] using x) with y | y
    · exact nb' y
    · omega
/-- New owned memory. -/
theorem WS.new {P : Program} {nd : List (Operand × Asn)} {o : Oper} {R : List Ent → Asn → Prop}
    (h : ∀ a w bad, (∀ b, bad b → b < w.heap.size) → Opd a w bad nd →
      Runs P o a w fun v w' => ∃ e' A, R [e'] A ∧ Turn w [] w' e'.bs ∧ e'.P w' (badTo bad [] e'.bs) ∧ A.P w' (badTo bad [] e'.bs) v) : WS P [] nd o R := fun fg a w s n => by
  rw [badOf_nil] at n
  refine (h a w fg s.lt n).mono ?_
  rintro v w' ⟨e', A, r, t, hP, hA⟩
  have hbad : badTo fg [] e'.bs = badOf [e'] fg := by
    funext b; simp [badTo, badOf, keys, or_comm]
  rw [hbad] at hP hA
  refine ⟨[e'], A, r, ⟨by simpa [keys] using t.nodup, fun b hb x => ?_, fun b hb => Nat.lt_of_lt_of_le (s.lt b hb) t.size, fun x hx => by simp at hx; subst hx; exact hP⟩, ⟨t.os, t.tape, t.output, t.size, fun b hlt nb => ?_⟩, hA⟩
  · rcases t.new b (by simpa [keys] using hb) with y | y
    · simp at y
    · exact absurd (s.lt b x) (by omega)
  · refine ⟨t.keep b hlt (by simp), fun x => ?_⟩
    rcases t.new b (by simpa [keys] using x) with y | y
    · simp at y
    · omega

/-! ### New variables -/
theorem Turn.alloc (w : World) (o : Obj) : Turn w [] { w with heap := w.heap.push o } [w.heap.size] :=
  ⟨rfl, rfl, rfl, by simp, fun b hb _ => by show (w.heap.push o)[b]? = _; rw [Array.getElem?_push, if_neg (by omega)], by simp, fun b hb => by simp at hb; exact .inr (by omega)⟩
theorem push_new (w : World) (o : Obj) : ({ w with heap := w.heap.push o } : World).heap[w.heap.size]? = some o := by simp
theorem CellsAt.block {w : World} {b : Nat} {cs : List Value} {e : TypeId} {fr : Nat × Nat} (h : w.heap[b]? = some (.cells cs.toArray e fr)) : CellsAt w b 0 cs := fun i hi => by
  rw [cell_of_row w b (0 + i) cs.toArray e fr h]; simp
section
variable {P : Program} {o : Oper}
/-- A value's cells. -/
def CellsOf (A : Asn) (l : List Asn) : Prop := ∀ w bad v, A.P w bad v → All2 w bad l v.cells.toList
theorem CellsOf.agg (l : List Asn) : CellsOf (AggA l) l := fun w bad v ⟨cs, e, k⟩ => by subst e; simpa [Value.cells] using k
theorem CellsOf.one {A : Asn} (h : A.cell = true) : CellsOf A [A] := fun w bad v k => by
  have h1 := A.one h k
  cases v <;> first | exact ⟨k, trivial⟩ | (simp [Value.oneCell'] at h1)
theorem run_box {T : TypeId} {v : Value} {w : World} : (Instr.box T v).run P w = .ok (.pointer (some ⟨w.heap.size, 0, none⟩)) { w with heap := w.heap.push (.cells v.cells T) } := by
  simp [Instr.box, newVar, newRow]
/-- A variable that is never written again. -/
theorem q_box {T : TypeId} {x : Operand} {A : Asn} {l : List Asn} (ho : o.op = .box T x) (hl : CellsOf A l) : QS P [(x, A)] o (PtrA l) := fun a w bad hlt nd => by
  have hx := hl _ _ _ nd.h0
  refine Runs.value (v := .pointer (some ⟨w.heap.size, 0, none⟩)) (w' := { w with heap := w.heap.push (.cells (a.eval x).cells T) }) ?_ ⟨?_, Same.alloc w _⟩
  · simp [execOp, ho, run_box]
  · exact ⟨w.heap.size, 0, _, rfl, by simp, fun hb => absurd (hlt _ hb) (by omega), hx.ext ((Same.alloc w _).ext bad), CellsAt.block (e := T) (fr := (0, 0)) (by rw [push_new])⟩
def PNew (l : List Asn) (O' : List Ent) (A : Asn) : Prop := ∃ b, O' = [BoxE b l] ∧ A = EqA (.pointer (some ⟨b, 0, none⟩))
theorem w_box {T : TypeId} {x : Operand} {A : Asn} {l : List Asn} (ho : o.op = .box T x) (hl : CellsOf A l) : WS P [] [(x, A)] o (PNew l) := WS.new fun a w bad hlt nd => by
  have hx := hl _ _ _ nd.h0
  refine Runs.value (v := .pointer (some ⟨w.heap.size, 0, none⟩)) (w' := { w with heap := w.heap.push (.cells (a.eval x).cells T) }) ?_ ⟨BoxE w.heap.size l, _, ⟨_, rfl, rfl⟩, Turn.alloc w _, ?_, rfl⟩
  · simp [execOp, ho, run_box]
  · exact ⟨_, T, by rw [push_new], hx.ext ((Turn.alloc w _).ext (by simp))⟩
def zeroOf (P : Program) (t : TypeId) : Option (List Value) := ((P.info? t).bind (·.zero)).map fun v => v.cells.toList
theorem run_zero {t : TypeId} {zs : List Value} {w : World} (h : zeroOf P t = some zs) : ∃ z, (zeroValue t).run P w = .ok z w ∧ z.cells.toList = zs := by
  unfold zeroOf at h
  cases hi : P.info? t with
  | none => simp [hi] at h
  | some i =>
    cases hz : i.zero with
    | none => simp [hi, hz] at h
    | some z =>
      simp [hi, hz] at h
      exact ⟨z, by simp [zeroValue, typeInfo, hi, hz], h⟩
theorem All2.eqs (w : World) (bad : Bad) : ∀ zs : List Value, All2 w bad (zs.map EqA) zs
  | [] => trivial
  | _ :: zs => ⟨rfl, All2.eqs w bad zs⟩
theorem w_alloc {T : TypeId} {zs : List Value} {l : List Asn} (ho : o.op = .alloc T) (hz : zeroOf P T = some zs) (hl : zs.map EqA = l) : WS P [] [] o (PNew l) := WS.new fun a w bad hlt nd => by
  obtain ⟨z, hr, hc⟩ := run_zero (w := w) hz
  subst hl
  refine Runs.value (v := .pointer (some ⟨w.heap.size, 0, none⟩)) (w' := { w with heap := w.heap.push (.cells z.cells T) }) ?_ ⟨BoxE w.heap.size _, _, ⟨_, rfl, rfl⟩, Turn.alloc w _, ?_, rfl⟩
  · simp [execOp, ho, Instr.alloc, hr, newVar, newRow]
  · exact ⟨z.cells.toList, T, by rw [push_new], by rw [hc]; exact All2.eqs _ _ _⟩

/-! ### Storing -/
def place (l : List Asn) (o : Nat) (l' : List Asn) : List Asn := l.take o ++ l' ++ l.drop (o + l'.length)
theorem run_store_block {T : TypeId} {n b off : Nat} {cs : List Value} {e : TypeId} {v : Value} {w : World} {ag : Bool} (hs : shapeOf P T = some (ag, n)) (hv : v.cells.size = n) (h1 : ∀ u ∈ v.cells.toList, u.oneCell' = true)
    (hh : w.heap[b]? = some (.cells cs.toArray e (0, 0))) (hfit : off + n ≤ cs.length) :
    (Instr.storeAt T (.pointer (some ⟨b, off, none⟩)) v).run P w = .ok () (w.setRow b (cs.take off ++ v.cells.toList ++ cs.drop (off + v.cells.toList.length)).toArray) := by
  obtain ⟨_, h2⟩ := shapeOf_spec hs w
  have hst := run_storeCells_at P b off e v.cells.toList 0 cs.toArray w hh (by simp [hv]; omega) h1
  simp only [Nat.add_zero] at hst
  simp [Instr.storeAt, Instr.sureAddr, storeVar, h2, hv] 
  simpa [hv] using hst
theorem Turn.setRow (w : World) (b : Nat) (cs' : Array Value) : Turn w [b] (w.setRow b cs') [b] :=
  ⟨rfl, rfl, rfl, by simp, fun k _ hk => setRow_other w b k _ (by simpa using hk), by simp, fun k hk => .inl hk⟩
theorem w_store {T : TypeId} {x y : Operand} {b off n : Nat} {l l' L : List Asn} {A : Asn} {ag : Bool} (ho : o.op = .store T x y) (hs : shapeOf P T = some (ag, n)) (hA : CellsOf A l') (h1 : l'.all (·.cell) = true) (hn : l'.length = n)
    (hfit : off + n ≤ l.length) (hL : place l off l' = L) : WS P [BoxE b l] [(x, EqA (.pointer (some ⟨b, off, none⟩))), (y, A)] o (fun O' B => O' = [BoxE b L] ∧ B = AnyA) := WS.turn fun a w bad hlt hb hP nd => by
  have hx : a.eval x = .pointer (some ⟨b, off, none⟩) := nd.h0
  have hy := hA _ _ _ nd.tl.h0
  obtain ⟨cs, e, hh, hk⟩ := hP
  have hsz : (a.eval y).cells.size = n := by rw [← Array.length_toList, hy.length, hn]
  have hr := run_store_block (P := P) hs hsz (All2.one h1 hy) hh (by rw [hk.length]; omega)
  refine Runs.skip (w' := w.setRow b (cs.take off ++ (a.eval y).cells.toList ++ cs.drop (off + (a.eval y).cells.toList.length)).toArray) ?_ ⟨BoxE b L, AnyA, ⟨rfl, rfl⟩, Turn.setRow w b _, ⟨_, e, setRow_heap w b _ _ e _ hh, ?_⟩, trivial⟩
  · simp only [execOp, ho, hx, Sem.run_bind, hr]; rfl
  · subst hL
    have hx := (Turn.setRow w b (cs.take off ++ (a.eval y).cells.toList ++ cs.drop (off + (a.eval y).cells.toList.length)).toArray).ext (bad := bad) (by simpa [BoxE] using hb)
    have hlen : (a.eval y).cells.toList.length = l'.length := hy.length
    have hk2 := ((hk.take off).append hy).append (hk.drop (off + (a.eval y).cells.toList.length))
    rw [hlen] at hk2 ⊢
    rw [hlen] at hx
    exact hk2.ext hx
end

/-! ### Calls -/
def Con (P : Program) (f : FuncId) (Oc : List Ent) (as : List Asn) (R : List Ent → Asn → Prop) : Prop :=
  ∀ w fg vs, Sat w fg Oc → All2 w (badOf Oc fg) as vs → Calls P f vs.toArray w fun e w' => ∃ v O' A, e = .returned v ∧ R O' A ∧ Sat w' fg O' ∧ Frame w Oc w' O' ∧ A.P w' (badOf O' fg) v
/-- A call that leaves memory alone and hands back what is not owned. -/
def RA (A : Asn) (O' : List Ent) (B : Asn) : Prop := O' = [] ∧ B = A
section
variable {P : Program} {o : Oper}
theorem Opd.args {a : Act} {w : World} {bad : Bad} : ∀ {xs : List Operand} {as : List Asn}, Opd a w bad (xs.zip as) → xs.length = as.length → All2 w bad as (xs.map a.eval)
  | [], [], _, _ => trivial
  | x :: xs, A :: as, h, e => ⟨h.h0, Opd.args h.tl (by simpa using e)⟩
  | [], _ :: _, _, e => by simp at e
  | _ :: _, [], _, e => by simp at e
/-- A function of the program with a body of its own. -/
def callable (P : Program) (f : FuncId) : Bool := match P.funcs[f]? with
  | some fn => !(fn.name == "runtime.NumGoroutine") && !fn.body.isNone
  | none => false
theorem run_callFunc {f : FuncId} {args : Array Value} {w : World} (h : callable P f = true) : (callFunc f args).run P w = .ok (.enter f args) w := by
  unfold callable at h
  split at h
  · rename_i fn hf
    simp only [Bool.and_eq_true, Bool.not_eq_true', beq_eq_false_iff_ne, Option.isNone_eq_false_iff] at h
    have h2 : fn.body ≠ none := by intro e; rw [e] at h; simp at h
    simp [callFunc, hf, h.1, h2]
  · simp at h
theorem exec_call {f : FuncId} {xs : List Operand} {ts : Array TypeId} {a : Act} {w : World} (ho : o.op = .call { callee := .value (.func f), args := xs.toArray, argTypes := ts }) (hf : callable P f = true) :
    (execOp a.eval o).run P w = .ok (.enter f (xs.map a.eval).toArray) w := by
  have : a.eval (.func f) = .func (.func f) #[] #[] := rfl
  simp [execOp, ho, resolve, this, Deferred.ofValue, invoke, run_callFunc hf]
theorem q_call {f : FuncId} {xs : List Operand} {ts : Array TypeId} {as : List Asn} {A : Asn} (ho : o.op = .call { callee := .value (.func f), args := xs.toArray, argTypes := ts })
    (hf : callable P f = true) (hc : Con P f [] as (RA A)) (hl : xs.length = as.length) : QS P (xs.zip as) o A := fun a w bad hlt nd => by
  have ha := Opd.args nd hl
  refine Runs.enter (exec_call ho hf) ((hc w bad (xs.map a.eval) ⟨by simp [keys], by simp [keys], hlt, by simp⟩ (by rw [badOf_nil]; exact ha)).mono ?_)
  rintro e w' ⟨v, O', B, he, ⟨rfl, rfl⟩, s', f, hv⟩
  rw [badOf_nil] at hv
  exact ⟨v, he, hv, f.os, f.tape, f.output, f.size, fun b hb => (f.keep b hb (by simp [keys])).1⟩
theorem w_call {f : FuncId} {xs : List Operand} {ts : Array TypeId} {as : List Asn} {Oc : List Ent} {R : List Ent → Asn → Prop} (ho : o.op = .call { callee := .value (.func f), args := xs.toArray, argTypes := ts })
    (hf : callable P f = true) (hc : Con P f Oc as R) (hl : xs.length = as.length) : WS P Oc (xs.zip as) o R := fun fg a w s nd => by
  have ha := Opd.args nd hl
  refine Runs.enter (exec_call ho hf) ((hc w fg (xs.map a.eval) s ha).mono ?_)
  rintro e w' ⟨v, O', B, he, r, s', f, hv⟩
  exact ⟨v, he, O', B, r, s', f, hv⟩
end

/-! ### A function's body, and its results -/
def envOf : Nat → List Asn → Env
  | _, [] => []
  | i, A :: l => (i, A) :: envOf (i + 1) l
theorem envOf_sat {w bad} : ∀ (as : List Asn) (vs : List Value) (pre : List Value) (post : List Value), All2 w bad as vs → ∀ t A, look (envOf pre.length as) t = some A → A.P w bad ((pre ++ vs ++ post).toArray.getD t undef)
  | [], [], _, _, _, _, _, h => by simp [envOf, look] at h
  | B :: as, v :: vs, pre, post, k, t, A, h => by
    simp only [envOf, look] at h
    by_cases ht : pre.length = t
    · subst ht
      simp only [Nat.beq_refl, cond_true, Option.some.injEq] at h
      subst h
      simpa using k.1
    · have hb : Nat.beq pre.length t = false := by
        cases hb : Nat.beq pre.length t with
        | false => rfl
        | true => exact absurd (Nat.eq_of_beq_eq_true hb) ht
      rw [hb, cond_false] at h
      have := envOf_sat as vs (pre ++ [v]) post k.2 t A (by simpa using h)
      simpa using this
  | [], _ :: _, _, _, k, _, _, _ => k.elim
  | _ :: _, [], _, _, k, _, _, _ => k.elim
def PostOf (w0 : World) (O0 : List Ent) (fg : Bad) (R : List Ent → Asn → Prop) : Ending → World → Prop :=
  fun e w' => ∃ v O' A, e = .returned v ∧ R O' A ∧ Sat w' fg O' ∧ Frame w0 O0 w' O' ∧ A.P w' (badOf O' fg) v
theorem Con.of {P : Program} {f : FuncId} {fn : Func} {body : Code} {Oc : List Ent} {as : List Asn} {R : List Ent → Asn → Prop} (hf : P.funcs[f]? = some fn) (hb : fn.body = some body) {N : Nat} (hn : fn.ntmps = N) (hN : Nat.ble as.length N = true)
    (h : ∀ w0 fg, W ⟨P, N, w0, Oc, fg⟩ (envOf 0 as) Oc body (bodyPost P fn (PostOf w0 Oc fg R))) : Con P f Oc as R := fun w fg vs s k => by
  refine calls_of_wp hf hb ?_
  have hl := k.length
  subst hn
  have hN : as.length ≤ fn.ntmps := by simpa using hN
  refine h w fg _ w ⟨rfl, ?_, s, Frame.refl w Oc, fun t A e => ?_⟩
  · simp; omega
  · have := envOf_sat as vs [] (List.replicate (fn.ntmps - vs.length) undef) k t A e
    have he : (vs.toArray ++ Array.replicate (fn.ntmps - vs.toArray.size) undef) = ([] ++ vs ++ List.replicate (fn.ntmps - vs.length) undef).toArray := by
      rw [← List.toArray_replicate, List.append_toArray]; simp
    show A.P w (badOf Oc fg) ((vs.toArray ++ Array.replicate (fn.ntmps - vs.toArray.size) undef).getD t undef)
    rw [he]
    exact this
section
variable {c : Cx} {env : Env} {O : List Ent} {fn : Func} {R : List Ent → Asn → Prop}
theorem St.post {P : Program} {w0 O0} {env : Env} {a : Act} {w : World} {v : Value} {A : Asn} (hw0 : w0 = c.w0) (hO0 : O0 = c.O0) (s : St c env O a w) (hr : (results fn a.tmps).run P w = .ok v w) (hA : A.P w (badOf O c.fg) v) (hR : R O A) :
    a.defers = [] ∧ ∃ v, (results fn a.tmps).run P w = .ok v w ∧ PostOf w0 O0 c.fg R (.returned v) w := by
  subst hw0 hO0
  exact ⟨s.defers, v, hr, v, O, A, rfl, hR, s.sat, s.frame, hA⟩
theorem QR.tmp {P : Program} {t : Nat} {A : Asn} (h : fn.results = #[.tmp t]) (hl : look env t = some A) (hR : R O A) : QR c env O (bodyPost P fn (PostOf c.w0 c.O0 c.fg R)) := fun _ w s =>
  s.post rfl rfl (results_tmp h _ P w) (s.env t A hl) hR
theorem QR.tmp2 {P : Program} {t u : Nat} {A B : Asn} (h : fn.results = #[.tmp t, .tmp u]) (hl : look env t = some A) (hl' : look env u = some B) (hR : R O (TupA [A, B])) : QR c env O (bodyPost P fn (PostOf c.w0 c.O0 c.fg R)) := fun _ w s =>
  s.post (A := TupA [A, B]) rfl rfl (results_tmp2 h _ P w) ⟨[_, _], rfl, s.env t A hl, s.env u B hl', trivial⟩ hR
theorem QR.none {P : Program} (h : fn.results = #[]) (hR : R O (TupA [])) : QR c env O (bodyPost P fn (PostOf c.w0 c.O0 c.fg R)) := fun _ w s =>
  s.post (A := TupA []) rfl rfl (results_none h _ P w) ⟨[], rfl, trivial⟩ hR
end
end Go.Abs
