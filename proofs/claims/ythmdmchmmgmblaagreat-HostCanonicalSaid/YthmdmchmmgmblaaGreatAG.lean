/- Short words for the printed proofs: what stands in them a thousand times, told once. -/
import Derived.Test.YthmdmchmmgmblaaGreatAF
namespace Go.Abs
open Go Go.RowKit
abbrev iA (x : Int) : Asn := EqA (.int .i64 x)
abbrev bA (x : Bool) : Asn := EqA (.bool x)
section
variable {c : Cx} {env : Env} {O : List Ent} {Q : Post} {ops : Array Oper} {rest : List Oper} {o : Oper}
abbrev Op3 (c : Cx) (o : Oper) (d : Nat) (op : Op) : Prop := (o.guard, o.dst, Nat.blt d c.N, o.op) = (none, some d, true, op)
theorem Op3.g {d : Nat} {op : Op} (h : Op3 c o d op) : o.guard = none := congrArg (·.1) h
theorem Op3.d {d : Nat} {op : Op} (h : Op3 c o d op) : o.dst = some d := congrArg (·.2.1) h
theorem Op3.N {d : Nat} {op : Op} (h : Op3 c o d op) : Nat.blt d c.N = true := congrArg (·.2.2.1) h
theorem Op3.op {d : Nat} {op : Op} (h : Op3 c o d op) : o.op = op := congrArg (·.2.2.2) h
/-- One operand in a slot, two. -/
theorem p1 {d : Nat} {A B : Asn} (h3 : (o.guard, o.dst, Nat.blt d c.N) = (none, some d, true)) (t : Nat) (hl : look env t = some A) (hq : QS c.P [(.tmp t, A)] o B) (h : WL c ops ((d, B) :: env) O rest Q) : WL c ops env O (o :: rest) Q :=
  WL.p (congrArg (·.1) h3) (congrArg (·.2.1) h3) (congrArg (·.2.2) h3) (.t hl .nil) hq h
theorem p2 {d : Nat} {A A' B : Asn} (h3 : (o.guard, o.dst, Nat.blt d c.N) = (none, some d, true)) (t : Nat) (hl : look env t = some A) (t' : Nat) (hl' : look env t' = some A') (hq : QS c.P [(.tmp t, A), (.tmp t', A')] o B) (h : WL c ops ((d, B) :: env) O rest Q) : WL c ops env O (o :: rest) Q :=
  WL.p (congrArg (·.1) h3) (congrArg (·.2.1) h3) (congrArg (·.2.2) h3) (.t hl (.t hl' .nil)) hq h
theorem pk {d : Nat} {A B : Asn} {v : Value} (h3 : (o.guard, o.dst, Nat.blt d c.N) = (none, some d, true)) (t : Nat) (hl : look env t = some A) (hq : QS c.P [(.tmp t, A), (.const v, EqA v)] o B) (h : WL c ops ((d, B) :: env) O rest Q) : WL c ops env O (o :: rest) Q :=
  WL.p (congrArg (·.1) h3) (congrArg (·.2.1) h3) (congrArg (·.2.2) h3) (.t hl (.k .nil)) hq h
theorem mv {d t : Nat} {A : Asn} (h : Op3 c o d (.move (.tmp t))) (hl : look env t = some A) (k : WL c ops ((d, A) :: env) O rest Q) : WL c ops env O (o :: rest) Q :=
  WL.p h.g h.d h.N (.t hl .nil) (q_move h.op) k
theorem av {d t : Nat} {A : Asn} (h : Op3 c o d (.assign (.tmp t))) (hl : look env t = some A) (k : WL c ops ((d, A) :: env) O rest Q) : WL c ops env O (o :: rest) Q :=
  WL.p h.g h.d h.N (.t hl .nil) (q_assign h.op) k
theorem ak {d : Nat} {v : Value} (h : Op3 c o d (.assign (.const v))) (k : WL c ops ((d, EqA v) :: env) O rest Q) : WL c ops env O (o :: rest) Q :=
  WL.p h.g h.d h.N (.k .nil) (q_assign h.op) k
theorem mk_ {d : Nat} {v : Value} (h : Op3 c o d (.move (.const v))) (k : WL c ops ((d, EqA v) :: env) O rest Q) : WL c ops env O (o :: rest) Q :=
  WL.p h.g h.d h.N (.k .nil) (q_move h.op) k
theorem fd {d t s j off : Nat} {l l' : List Asn} (h : Op3 c o d (.fieldAddr s (.tmp t) j)) (hl : look env t = some (PtrA l)) (hf : fieldOff c.P s j = some off) (hd : l.drop off = l') (k : WL c ops ((d, PtrA l') :: env) O rest Q) : WL c ops env O (o :: rest) Q :=
  WL.p h.g h.d h.N (.t hl .nil) (q_field h.op hf hd) k
theorem ld {d t T n : Nat} {l : List Asn} {A : Asn} (h : Op3 c o d (.load T (.tmp t))) (hl : look env t = some (PtrA (A :: l))) (hs : shapeOf c.P T = some (false, n)) (k : WL c ops ((d, A) :: env) O rest Q) : WL c ops env O (o :: rest) Q :=
  WL.p h.g h.d h.N (.t hl .nil) (q_load h.op hs) k
theorem lS {d t T n : Nat} {l l' : List Asn} (h : Op3 c o d (.load T (.tmp t))) (hl : look env t = some (PtrA l)) (hs : shapeOf c.P T = some (true, n)) (hn : Nat.ble n l.length = true) (ht : l.take n = l') (k : WL c ops ((d, AggA l') :: env) O rest Q) : WL c ops env O (o :: rest) Q :=
  WL.p h.g h.d h.N (.t hl .nil) (q_loadS h.op hs (by simpa using hn) ht) k
theorem sk {d g t : Nat} {b want : Bool} (h : (o.guard, o.dst, Nat.blt d c.N) = (some (g, want), some d, true)) (hd : (ops[g]?).bind (·.dst) = some t) (hl : look env t = some (EqA (.bool b))) (e : b = !want) (k : WL c ops ((d, UndA) :: env) O rest Q) : WL c ops env O (o :: rest) Q :=
  WL.skip (Unwanted.on (congrArg (·.1) h) hd hl e) (congrArg (·.2.1) h) (congrArg (·.2.2) h) k
theorem su {d g t : Nat} {want : Bool} (h : (o.guard, o.dst, Nat.blt d c.N) = (some (g, want), some d, true)) (hd : (ops[g]?).bind (·.dst) = some t) (hl : look env t = some UndA) (k : WL c ops ((d, UndA) :: env) O rest Q) : WL c ops env O (o :: rest) Q :=
  WL.skip (Unwanted.und (congrArg (·.1) h) hd hl) (congrArg (·.2.1) h) (congrArg (·.2.2) h) k
theorem sr {id : Nat} {l : List Oper} {y : Code} (h : WL c l.toArray env O l (Exit.then (y.wp c.P Q) Q)) : W c env O (.seq (.region id l.toArray false) y) Q := W.seq (W.region h)
theorem nt {y : Code} (h : W c env O y Q) : WL c ops env O [] (Exit.then (y.wp c.P Q) Q) := WL.nil (QN.then_ h)
theorem nx {id : Nat} {l : List Oper} {y : Code} (h : WL c l.toArray env O l (Exit.then (y.wp c.P Q) Q)) : WL c ops env O [] (Exit.then ((Code.seq (.region id l.toArray false) y).wp c.P Q) Q) := nt (sr h)
abbrev OpG (c : Cx) (o : Oper) (g : Nat) (want : Bool) (d : Nat) : Prop := (o.guard, o.dst, Nat.blt d c.N) = (some (g, want), some d, true)
theorem wq {d g t : Nat} {b want : Bool} {nd : List (Operand × Asn)} {A : Asn} (h : OpG c o g want d) (hd : (ops[g]?).bind (·.dst) = some t) (hl : look env t = some (EqA (.bool b))) (e : b = want) (hn : Needs env nd) (hq : QO c.P c.fg O nd o A) (k : WL c ops ((d, A) :: env) O rest Q) : WL c ops env O (o :: rest) Q :=
  WL.q (Wanted.on (congrArg (·.1) h) hd hl e) (congrArg (·.2.1) h) (congrArg (·.2.2) h) hn hq k
theorem wm {d g t x : Nat} {b want : Bool} {A : Asn} (h : OpG c o g want d) (hd : (ops[g]?).bind (·.dst) = some t) (hl : look env t = some (EqA (.bool b))) (e : b = want) (ho : o.op = .move (.tmp x)) (hx : look env x = some A) (k : WL c ops ((d, A) :: env) O rest Q) : WL c ops env O (o :: rest) Q :=
  wq h hd hl e (.t hx .nil) (q_move ho).o k
theorem wf {d g t x s j off : Nat} {b want : Bool} {l l' : List Asn} (h : OpG c o g want d) (hd : (ops[g]?).bind (·.dst) = some t) (hl : look env t = some (EqA (.bool b))) (e : b = want) (ho : o.op = .fieldAddr s (.tmp x) j) (hx : look env x = some (PtrA l)) (hf : fieldOff c.P s j = some off) (hr : l.drop off = l')
    (k : WL c ops ((d, PtrA l') :: env) O rest Q) : WL c ops env O (o :: rest) Q := wq h hd hl e (.t hx .nil) (q_field ho hf hr).o k
theorem wl {d g t x T n : Nat} {b want : Bool} {l : List Asn} {A : Asn} (h : OpG c o g want d) (hd : (ops[g]?).bind (·.dst) = some t) (hl : look env t = some (EqA (.bool b))) (e : b = want) (ho : o.op = .load T (.tmp x)) (hx : look env x = some (PtrA (A :: l))) (hs : shapeOf c.P T = some (false, n))
    (k : WL c ops ((d, A) :: env) O rest Q) : WL c ops env O (o :: rest) Q := wq h hd hl e (.t hx .nil) (q_load ho hs).o k
end
section
variable {c : Cx} {ops : Array Oper} {O : List Ent} {K : Env → Prop} {env : Env} {o : Oper} {dep : Bool} {rest : List (Bool × Oper)}
theorem dm {d t : Nat} {A : Asn} (h : Op3 c o d (.move (.tmp t))) (hl : look env t = some A) (ht : (ndTmps [(.tmp t, A)]).all (fun t => (namesOf ops o).contains t) = true) (k : DK c ops O K ((d, A) :: env) rest) : DK c ops O K env ((dep, o) :: rest) :=
  DK.cons h.d h.N (.p h.g (.s t hl .nil) ht (q_move h.op)) k
theorem df {d t s j off : Nat} {l l' : List Asn} (h : Op3 c o d (.fieldAddr s (.tmp t) j)) (hl : look env t = some (PtrA l)) (ht : (ndTmps [(.tmp t, PtrA l)]).all (fun t => (namesOf ops o).contains t) = true) (hf : fieldOff c.P s j = some off) (hr : l.drop off = l') (k : DK c ops O K ((d, PtrA l') :: env) rest) : DK c ops O K env ((dep, o) :: rest) :=
  DK.cons h.d h.N (.p h.g (.s t hl .nil) ht (q_field h.op hf hr)) k
theorem dl {d t T n : Nat} {l : List Asn} {A : Asn} (h : Op3 c o d (.load T (.tmp t))) (hl : look env t = some (PtrA (A :: l))) (ht : (ndTmps [(.tmp t, PtrA (A :: l))]).all (fun t => (namesOf ops o).contains t) = true) (hs : shapeOf c.P T = some (false, n)) (k : DK c ops O K ((d, A) :: env) rest) : DK c ops O K env ((dep, o) :: rest) :=
  DK.cons h.d h.N (.p h.g (.s t hl .nil) ht (q_load h.op hs)) k
theorem dx {d g t : Nat} {b want : Bool} (h : OpG c o g want d) (hd : (ops[g]?).bind (·.dst) = some t) (hl : look env t = some (EqA (.bool b))) (e : b = !want) (k : DK c ops O K ((d, UndA) :: env) rest) : DK c ops O K env ((dep, o) :: rest) :=
  DK.cons (congrArg (·.2.1) h) (congrArg (·.2.2) h) (.off (congrArg (·.1) h) hd hl e) k
theorem dg {d g t x : Nat} {b want : Bool} {A B : Asn} (h : OpG c o g want d) (hd : (ops[g]?).bind (·.dst) = some t) (hl : look env t = some (EqA (.bool b))) (e : b = want) (x : Nat) (hx : look env x = some A) (ht : (ndTmps [(.tmp x, A)]).all (fun t => (namesOf ops o).contains t) = true) (hq : QS c.P [(.tmp x, A)] o B)
    (k : DK c ops O K ((d, B) :: env) rest) : DK c ops O K env ((dep, o) :: rest) := DK.cons (congrArg (·.2.1) h) (congrArg (·.2.2) h) (.gp (congrArg (·.1) h) hd hl e (.s x hx .nil) ht hq) k
theorem dp {d : Nat} {A B : Asn} (hd : o.dst = some d) (hN : Nat.blt d c.N = true) (hg : o.guard = none) (t : Nat) (hl : look env t = some A) (ht : (ndTmps [(.tmp t, A)]).all (fun t => (namesOf ops o).contains t) = true) (hq : QS c.P [(.tmp t, A)] o B) (k : DK c ops O K ((d, B) :: env) rest) : DK c ops O K env ((dep, o) :: rest) :=
  DK.cons hd hN (.p hg (.s t hl .nil) ht hq) k
theorem dq {d : Nat} {A A' B : Asn} (hd : o.dst = some d) (hN : Nat.blt d c.N = true) (hg : o.guard = none) (t : Nat) (hl : look env t = some A) (t' : Nat) (hl' : look env t' = some A') (ht : (ndTmps [(.tmp t, A), (.tmp t', A')]).all (fun t => (namesOf ops o).contains t) = true) (hq : QS c.P [(.tmp t, A), (.tmp t', A')] o B)
    (k : DK c ops O K ((d, B) :: env) rest) : DK c ops O K env ((dep, o) :: rest) := DK.cons hd hN (.p hg (.s t hl (.s t' hl' .nil)) ht hq) k
end
theorem All2.set {w : World} {bad : Bad} {B : Asn} : ∀ {l : List Asn} {vs : List Value} {i : Nat} {u : Value}, All2 w bad l vs → vs[i]? = some u → B.P w bad u → All2 w bad (l.set i B) vs
  | [], [], _, _, _, h, _ => by simp at h
  | A :: l, v :: vs, 0, u, k, h, hB => by
    simp at h; subst h
    exact ⟨hB, k.2⟩
  | A :: l, v :: vs, i + 1, u, k, h, hB => ⟨k.1, All2.set k.2 (by simpa using h) hB⟩
  | [], _ :: _, _, _, k, _, _ => k.elim
  | _ :: _, [], _, _, k, _, _ => k.elim
/-- A slice that a settled variable holds is written no more. -/
theorem StTo.ptrFreeze {c : Cx} {env : Env} {O Or : List Ent} {α : Type} {e : TypeId} {v : Value} {kd : Kd α} {xs : List α} {L : List Asn} (is : List Nat) (t i : Nat) (hp : pick is O = some ([SlE e v kd xs], Or)) (hl : look env t = some (PtrA L)) (hi : L[i]? = some (HdA v)) :
    StTo c env O ((t, PtrA (L.set i (SlcA kd xs))) :: env) Or := fun a w s => by
  have s1 := s.perm (perm_pick hp)
  have h := SlE.ro (O := Or) s1.sat
  have s2 : St c env Or a w := s1.drop
  obtain ⟨b, o, cs, e1, hb, nb, hk, hc⟩ := s2.env t _ hl
  obtain ⟨u, hu1, hu2⟩ := All2.get hk hi
  have hu3 : u = v := hu2.1
  subst hu3
  exact s2.add ⟨b, o, cs, e1, hb, nb, All2.set hk hu1 h, hc⟩
theorem EnvLe.o4 {env env' : Env} {t1 t2 t3 t4 : Nat} {A1 A2 A3 A4 : Asn} (h : (look env t1, look env t2, look env t3, look env t4) = (some A1, some A2, some A3, some A4)) (k : EnvLe env env') : EnvLe env ((t1, A1) :: (t2, A2) :: (t3, A3) :: (t4, A4) :: env') :=
  .one (congrArg (·.1) h) (.one (congrArg (·.2.1) h) (.one (congrArg (·.2.2.1) h) (.one (congrArg (·.2.2.2) h) k)))
theorem EnvLe.o2 {env env' : Env} {t1 t2 : Nat} {A1 A2 : Asn} (h : (look env t1, look env t2) = (some A1, some A2)) (k : EnvLe env env') : EnvLe env ((t1, A1) :: (t2, A2) :: env') :=
  .one (congrArg (·.1) h) (.one (congrArg (·.2) h) k)
/-- Lists of places, each as the bits of a number. -/
def bm (l : List Nat) : List (List Nat) := l.map fun m => (List.range 160).filter fun i => m.testBit i
end Go.Abs
