/- Copies into own slices, parts of own slices, a sum with its carry, conditions that are constants. -/
import Derived.Test.YthmdmchmmgmblaaGreatAE
import Derived.Laws.CopyRow
import Derived.Laws.Externs
namespace Go.Abs
open Go Go.RowKit

section
variable {α : Type} {kd : Kd α}
theorem cs_take1 (hn : kd.n = 1) (ys : List α) (m : Nat) : kd.cs (ys.take m) = (kd.cs ys).take m := by
  by_cases hm : m ≤ ys.length
  · have h1 := kd.cs_append (ys.take m) (ys.drop m)
    have h2 : (kd.cs (ys.take m)).length = m := by rw [kd.cs_length, hn]; simp [Nat.min_eq_left hm]
    rw [List.take_append_drop] at h1
    have h3 : (kd.cs ys).take m = (kd.cs (ys.take m) ++ kd.cs (ys.drop m)).take (kd.cs (ys.take m)).length := by rw [← h1, h2]
    rw [h3, List.take_left]
  · rw [List.take_of_length_le (by omega), List.take_of_length_le]
    rw [kd.cs_length, hn]; omega
theorem cs_drop1 (hn : kd.n = 1) (ys : List α) (m : Nat) : kd.cs (ys.drop m) = (kd.cs ys).drop m := by
  by_cases hm : m ≤ ys.length
  · have h1 := kd.cs_append (ys.take m) (ys.drop m)
    have h2 : (kd.cs (ys.take m)).length = m := by rw [kd.cs_length, hn]; simp [Nat.min_eq_left hm]
    rw [List.take_append_drop] at h1
    have h3 : (kd.cs ys).drop m = (kd.cs (ys.take m) ++ kd.cs (ys.drop m)).drop (kd.cs (ys.take m)).length := by rw [← h1, h2]
    rw [h3, List.drop_left]
  · rw [List.drop_eq_nil_of_le (by omega), List.drop_eq_nil_of_le]
    · rfl
    · rw [kd.cs_length, hn]; omega
/-- Cells are laid over a part of an own slice. -/
theorem copy_core {w : World} {bad : Bad} {e' : TypeId} {v : Value} {xs zs : List α} {g l : Nat} {cs : List Value} (hn : kd.n = 1) (hP : (SlE e' v kd xs).P w bad) (hg : ownB v = some g) (hb : ∀ b ∈ (SlE e' v kd xs).bs, bad b) (hk : All2 w bad (kd.cs zs) cs) (hfit : l + zs.length ≤ xs.length) :
    ∃ cur cap, v = .slice (some ⟨g, 0, none⟩) xs.length cap ∧ xs.length ≤ cap ∧ w.heap[g]? = some (.cells cur e' (0, 0)) ∧ cur.size = cap ∧ cs.length = zs.length ∧ cur.toList.take xs.length = cur.toList.take xs.length ∧
      Turn w (SlE e' v kd xs).bs (w.setRow g (cur.toList.take l ++ cs ++ cur.toList.drop (l + cs.length)).toArray) (SlE e' v kd (xs.take l ++ zs ++ xs.drop (l + zs.length))).bs ∧
      (SlE e' v kd (xs.take l ++ zs ++ xs.drop (l + zs.length))).P (w.setRow g (cur.toList.take l ++ cs ++ cur.toList.drop (l + cs.length)).toArray) (badTo bad (SlE e' v kd xs).bs (SlE e' v kd (xs.take l ++ zs ++ xs.drop (l + zs.length))).bs) := by
  obtain ⟨cs0, cur, cap, hv, hle, hcm, hk0, hh, hsz, htk⟩ := SlE.cells hP hg
  have hcl : cs.length = zs.length := by rw [hk.length, kd.cs_length, hn, Nat.mul_one]
  have hsz1 : cur.size = cap := by rw [hsz, hn, Nat.mul_one]
  have htk1 : cur.toList.take xs.length = cs0 := by rw [← htk, hn, Nat.mul_one]
  have hbs : (SlE e' v kd xs).bs = [g] := by simp [SlE, hg]
  have hbs' : (SlE e' v kd (xs.take l ++ zs ++ xs.drop (l + zs.length))).bs = [g] := by simp [SlE, hg]
  have htu := Turn.setRow w g (cur.toList.take l ++ cs ++ cur.toList.drop (l + cs.length)).toArray
  have hx := htu.ext (bad := bad) (by rw [← hbs]; exact hb)
  have hxl : (xs.take l ++ zs ++ xs.drop (l + zs.length)).length = xs.length := by simp; omega
  have hl0 : cs0.length = xs.length := by rw [hk0.length, kd.cs_length, hn, Nat.mul_one]
  refine ⟨cur, cap, hv, hle, hh, hsz1, hcl, rfl, by rw [hbs, hbs']; exact htu, ?_⟩
  rw [hbs, hbs']
  refine .inr ⟨g, hg, cs0.take l ++ cs ++ cs0.drop (l + cs.length), ?_, ?_, .inr ⟨g, cap, _, by rw [hxl]; exact hv, Nat.zero_le _, setRow_heap w g _ _ e' _ hh, by rw [hxl]; exact hle, hcm, ?_, ?_⟩⟩
  · rw [kd.cs_append, kd.cs_append, cs_take1 hn, cs_drop1 hn, ← hcl]
    exact (((hk0.take l).append hk).append (hk0.drop (l + cs.length))).ext hx
  · rw [hxl, hn, Nat.mul_one]; simp; omega
  · rw [hn, Nat.mul_one]; simp [hsz1]; omega
  · rw [hxl, hn, Nat.mul_one, ← htk1]
    have := take_splice cur.toList cs l xs.length (by omega) (by simp [hsz1]; omega)
    exact this
end
/-- The value is the part from 'l' on of the own slice 'v'; the part up to 'h'. -/
def LoA (v : Value) (l : Nat) : Asn := ⟨fun _ _ u => ∃ g len cap, v = .slice (some ⟨g, 0, none⟩) len cap ∧ u = .slice (some ⟨g, l, none⟩) (len - l) (cap - l), fun _ h => h, true, fun _ _ _ u ⟨_, _, _, _, e⟩ => by subst e; rfl⟩
def HiA (v : Value) (h : Nat) : Asn := ⟨fun _ _ u => ∃ g len cap, v = .slice (some ⟨g, 0, none⟩) len cap ∧ u = .slice (some ⟨g, 0, none⟩) h cap, fun _ h => h, true, fun _ _ _ u ⟨_, _, _, _, e⟩ => by subst e; rfl⟩
/-- What copying leaves. -/
def cpy {α : Type} (xs : List α) (l : Nat) (zs : List α) : List α := xs.take l ++ zs ++ xs.drop (l + zs.length)
section
variable {P : Program} {o : Oper} {α : Type} {kd : Kd α} {fg : Bad} {O : List Ent} {e' : TypeId} {v : Value} {xs : List α} {j : Nat}
theorem SlE.owner {w : World} {bad : Bad} (h : (SlE e' v kd xs).P w bad) (h0 : 0 < xs.length) : ∃ g, ownB v = some g := by
  rcases h with ⟨rfl, _⟩ | ⟨g, hg, _⟩
  · simp at h0
  · exact ⟨g, hg⟩
theorem q_loO {t e : TypeId} {x lo : Operand} {l : Int} {k : IntKind} (ho : o.op = .slice t x (some lo) none none) (he : elOf P t = some (e, 1)) (hO : O[j]? = some (SlE e' v kd xs)) (h0 : 0 ≤ l) (h1 : l < xs.length) :
    QO P fg O [(x, HdA v), (lo, EqA (.int k l))] o (LoA v l.toNat) := fun a w s nd => by
  have hx : a.eval x = v ∧ _ := nd.h0
  have hl : a.eval lo = .int k l := nd.tl.h0
  obtain ⟨hu, inf, hi', hsz⟩ := elOf_spec he
  have hue : P.underlying t = some (.slice (P.elem t)) := by rw [elem_eq hu]; exact hu
  obtain ⟨g, hg⟩ := SlE.owner (s.at_ hO) (by omega)
  obtain ⟨cs0, cur, cap, hv, hle, _⟩ := SlE.cells (s.at_ hO) hg
  have hx1 := hx.1
  rw [hv] at hx1
  refine Runs.value (v := .slice (some ⟨g, l.toNat, none⟩) (xs.length - l.toNat) (cap - l.toNat)) ?_ ⟨⟨g, xs.length, cap, hv, rfl⟩, Same.refl w⟩
  simp only [execOp, ho, hx1, hl, Option.map_some, Option.map_none, Sem.run_bind, run_sliceAt_slice w t _ _ _ _ hue, run_slice_l w t (some ⟨g, 0, none⟩) xs.length cap hue k l h0 (by omega)]
  have hne : ¬ cap = l.toNat := by omega
  simp [elem_eq hu, sizeOf, typeInfo, hi', hsz, sliced, hne, addr_add]
theorem q_hiO {t e : TypeId} {x hi : Operand} {h : Int} {k : IntKind} (ho : o.op = .slice t x none (some hi) none) (he : elOf P t = some (e, 1)) (hO : O[j]? = some (SlE e' v kd xs)) (h0 : 0 ≤ h) (h1 : h < xs.length) :
    QO P fg O [(x, HdA v), (hi, EqA (.int k h))] o (HiA v h.toNat) := fun a w s nd => by
  have hx : a.eval x = v ∧ _ := nd.h0
  have hh : a.eval hi = .int k h := nd.tl.h0
  obtain ⟨hu, inf, hi', hsz⟩ := elOf_spec he
  have hue : P.underlying t = some (.slice (P.elem t)) := by rw [elem_eq hu]; exact hu
  obtain ⟨g, hg⟩ := SlE.owner (s.at_ hO) (by omega)
  obtain ⟨cs0, cur, cap, hv, hle, _⟩ := SlE.cells (s.at_ hO) hg
  have hx1 := hx.1
  rw [hv] at hx1
  refine Runs.value (v := .slice (some ⟨g, 0, none⟩) h.toNat cap) ?_ ⟨⟨g, xs.length, cap, hv, rfl⟩, Same.refl w⟩
  simp only [execOp, ho, hx1, hh, Option.map_some, Option.map_none, Sem.run_bind, run_sliceAt_slice w t _ _ _ _ hue, run_slice_h w t (some ⟨g, 0, none⟩) xs.length cap hue k h h0 (by omega)]
  have hne : ¬ cap = 0 := by omega
  simp [elem_eq hu, sizeOf, typeInfo, hi', hsz, sliced, hne, addr_add]
theorem exec_copy {t t' : TypeId} {d s : Operand} {a : Act} {w : World} {u : Value} {w' : World} (ho : o.op = .call { callee := .builtin .copy, args := #[d, s], argTypes := #[t, t'] })
    (h : (Builtin.copy_ #[t, t'] o.type #[a.eval d, a.eval s]).run P w = .ok u w') : (execOp a.eval o).run P w = .ok (.value u) w' := by
  simp [execOp, ho, resolve, invoke, builtin, h]
theorem All2.cut {w : World} {bad : Bad} {l : List Asn} {cs : List Value} (h : All2 w bad l cs) (n : Nat) : All2 w bad (l.take n) (cs.take n) := h.take n
/-- 'copy(v[l:], v[:h])' -/
theorem w_copyP {t t' e : TypeId} {d s : Operand} {l h : Nat} (ho : o.op = .call { callee := .builtin .copy, args := #[d, s], argTypes := #[t, t'] }) (he : elOf P t = some (e, 1)) (hn : kd.n = 1) (h1 : l < xs.length) (h2 : h < xs.length) :
    WS P [SlE e' v kd xs] [(d, LoA v l), (s, HiA v h)] o (fun O' B => O' = [SlE e' v kd (cpy xs l (xs.take (min h (xs.length - l))))] ∧ B = EqA (.int .i64 (min h (xs.length - l) : Nat))) := WS.turn fun a w bad _ hb hP nd => by
  obtain ⟨hu, inf, hi', hsz⟩ := elOf_spec he
  obtain ⟨g, hg⟩ := SlE.owner hP (by omega)
  obtain ⟨cs0, cur, cap, hv, hle, hcm, hk0, hh, hsz0, htk⟩ := SlE.cells hP hg
  have hd : a.eval d = .slice (some ⟨g, l, none⟩) (xs.length - l) (cap - l) := by
    obtain ⟨g', len', cap', e1, e2⟩ := nd.h0
    rw [hv] at e1; injection e1 with q1 q2 q3; injection q1 with q1; injection q1 with q1
    rw [e2, ← q1, ← q2, ← q3]
  have hs : a.eval s = .slice (some ⟨g, 0, none⟩) h cap := by
    obtain ⟨g', len', cap', e1, e2⟩ := nd.tl.h0
    rw [hv] at e1; injection e1 with q1 q2 q3; injection q1 with q1; injection q1 with q1
    rw [e2, ← q1, ← q3]
  have hl0 : cs0.length = xs.length := by rw [hk0.length, kd.cs_length, hn, Nat.mul_one]
  have hm : min h (xs.length - l) ≤ xs.length := by omega
  have hk1 : All2 w bad (kd.cs (xs.take (min h (xs.length - l)))) (cs0.take (min h (xs.length - l))) := by rw [cs_take1 hn]; exact hk0.take _
  have hzl : (xs.take (min h (xs.length - l))).length = min h (xs.length - l) := by rw [List.length_take]; omega
  obtain ⟨cur', cap', hv', _, hh', hsz', hcl, _, ht, hP'⟩ := copy_core (l := l) hn hP hg hb hk1 (by rw [hzl]; omega)
  rw [hv] at hv'; injection hv' with _ _ q3; subst q3
  rw [hh] at hh'; injection hh' with hh'; injection hh' with q1; subst q1
  have hr := run_copy_row P w t t' o.type e g l (xs.length - l) (cap - l) ⟨g, 0, none⟩ h cap cur e' (cs0.take (min h (xs.length - l))) hu (by simp [hi', hsz]) hh (by rw [hcl, hzl])
    (fun q u hq => by
      have hq' : q < xs.length := by have := (List.getElem?_eq_some_iff.1 hq).1; simp at this; omega
      rw [addr_add, cell_of_row w g (0 + q) cur e' (0, 0) hh, Nat.zero_add]
      rw [List.getElem?_take_of_lt (by have := (List.getElem?_eq_some_iff.1 hq).1; simp at this; omega), ← htk, hn, Nat.mul_one, List.getElem?_take_of_lt hq'] at hq
      simpa using hq)
    (by rw [hcl, hzl]; omega) (All2.one (kd.cs_one _) hk1)
  refine Runs.value (exec_copy ho (by rw [hd, hs]; exact hr)) ⟨SlE e' v kd (cpy xs l (xs.take (min h (xs.length - l)))), _, ⟨rfl, rfl⟩, ht, hP', ?_⟩
  show goInt _ = _
  rw [hcl, hzl]; rfl
/-- 'copy(v, ys)' -/
theorem w_copyO {t t' e : TypeId} {d s : Operand} {ys : List α} (ho : o.op = .call { callee := .builtin .copy, args := #[d, s], argTypes := #[t, t'] }) (he : elOf P t = some (e, 1)) (hn : kd.n = 1) (h1 : 0 < ys.length) (h2 : ys.length ≤ xs.length) :
    WS P [SlE e' v kd xs] [(d, HdA v), (s, SlcA kd ys)] o (fun O' B => O' = [SlE e' v kd (cpy xs 0 ys)] ∧ B = EqA (.int .i64 (ys.length : Nat))) := WS.turn fun a w bad _ hb hP nd => by
  obtain ⟨hu, inf, hi', hsz⟩ := elOf_spec he
  obtain ⟨g, hg⟩ := SlE.owner hP (by omega)
  obtain ⟨cs0, cur, cap, hv, hle, hcm, hk0, hh, hsz0, htk⟩ := SlE.cells hP hg
  have hd : a.eval d = .slice (some ⟨g, 0, none⟩) xs.length cap := by
    have : a.eval d = v ∧ _ := nd.h0
    rw [this.1, hv]
  rcases SlcA.open_ nd.tl.h0 with ⟨_, hy⟩ | ⟨ad, c, news, hs, hl, hk1, hc⟩
  · subst hy; simp at h1
  obtain ⟨cur', cap', hv', _, hh', hsz', hcl, _, ht, hP'⟩ := copy_core (l := 0) hn hP hg hb hk1 (by omega)
  rw [hv] at hv'; injection hv' with _ _ q3; subst q3
  rw [hh] at hh'; injection hh' with hh'; injection hh' with q1; subst q1
  have hr := run_copy_row P w t t' o.type e g 0 xs.length cap ad ys.length c cur e' news hu (by simp [hi', hsz]) hh (by rw [hcl]; exact (Nat.min_eq_left h2).symm) hc (by rw [hcl]; omega) (All2.one (kd.cs_one _) hk1)
  refine Runs.value (exec_copy ho (by rw [hd, hs]; exact hr)) ⟨SlE e' v kd (cpy xs 0 ys), _, ⟨rfl, rfl⟩, ht, hP', ?_⟩
  show goInt _ = _
  rw [hcl]; rfl
end
section
variable {c : Cx} {env : Env} {O : List Ent} {Q : Post}
theorem W.condKF {x y : Code} (hy : W c env O y Q) : W c env O (.cond (.const (.bool false)) x y) Q := fun a w s => wp_cond_split (t := false) rfl (fun e => by cases e) (fun _ => hy a w s)
theorem W.condKT {x y : Code} (hx : W c env O x Q) : W c env O (.cond (.const (.bool true)) x y) Q := fun a w s => wp_cond_split (t := true) rfl (fun _ => hx a w s) (fun e => by cases e)
end
section
variable {P : Program} {o : Oper}
/-- The library's sum with a carry, which the model has in its own hands. -/
theorem q_add64 {f : FuncId} {fn : Func} {x y z : Operand} {ts : Array TypeId} {m n c : Int} (ho : o.op = .call { callee := .value (.func f), args := #[x, y, z], argTypes := ts }) (hf : P.funcs[f]? = some fn) (hn : (fn.name == "runtime.NumGoroutine") = false) (hb : fn.body = none)
    (h1 : (Extern.findNext fn).isNone = true) (h2 : Extern.find fn = some add64Entry) (hx : 0 ≤ m) (hy : 0 ≤ n) (hc0 : 0 ≤ c) (hc : c ≤ 1) :
    QS P [(x, EqA (.int .u64 m)), (y, EqA (.int .u64 n)), (z, EqA (.int .u64 c))] o (TupA [EqA (.int .u64 ((m + n + c) % 18446744073709551616)), EqA (.int .u64 ((m + n + c) / 18446744073709551616))]) := fun a w bad _ nd => by
  have ex : a.eval x = .int .u64 m := nd.h0
  have ey : a.eval y = .int .u64 n := nd.tl.h0
  have ez : a.eval z = .int .u64 c := nd.tl.tl.h0
  have h1' : Extern.findNext fn = none := by simpa using h1
  have hn' : fn.name ≠ "runtime.NumGoroutine" := by simpa using hn
  have hr := run_add64 (P := P) m n c hx hy hc0 hc w
  have hcf := run_callFunc_extern (P := P) (f := f) (fn := fn) hf hn (by rw [hb]; rfl) h1' h2 #[.int .u64 m, .int .u64 n, .int .u64 c] w
  rw [hr] at hcf
  have hfu : a.eval (.func f) = .func (.func f) #[] #[] := rfl
  refine Runs.value (v := .tuple #[.int .u64 ((m + n + c) % 18446744073709551616), .int .u64 ((m + n + c) / 18446744073709551616)]) ?_ ⟨⟨_, rfl, rfl, rfl, trivial⟩, Same.refl w⟩
  simp [execOp, ho, resolve, hfu, Deferred.ofValue, invoke, ex, ey, ez, hcf]
end
end Go.Abs
