/- More steps: slices of the call's own, literals, strings, results. -/
import Derived.Test.YthmdmchmmgmblaaGreatA3
namespace Go.Abs
open Go Go.RowKit

/-! ### What is known may be told otherwise -/
def StTo (c : Cx) (env : Env) (O : List Ent) (env' : Env) (O' : List Ent) : Prop := ∀ a w, St c env O a w → St c env' O' a w
section
variable {c : Cx} {env env' : Env} {O O' : List Ent} {Q : Post} {ops : Array Oper} {l : List Oper}
theorem W.to (t : StTo c env O env' O') {x : Code} (k : W c env' O' x Q) : W c env O x Q := fun a w s => k a w (t a w s)
theorem WL.to (t : StTo c env O env' O') (k : WL c ops env' O' l Q) : WL c ops env O l Q := fun a w s => k a w (t a w s)
theorem QN.to (t : StTo c env O env' O') (k : QN c env' O' Q) : QN c env O Q := fun a w s => k a w (t a w s)
theorem QR.to (t : StTo c env O env' O') (k : QR c env' O' Q) : QR c env O Q := fun a w s => k a w (t a w s)
theorem QX.to {id : Nat} (t : StTo c env O env' O') (k : QX c id env' O' Q) : QX c id env O Q := fun a w s => k a w (t a w s)
theorem StTo.trans {env2 : Env} {O2 : List Ent} (t : StTo c env O env' O') (u : StTo c env' O' env2 O2) : StTo c env O env2 O2 := fun a w s => u a w (t a w s)
theorem St.add {a w} {t : Nat} {A : Asn} (s : St c env O a w) (h : A.P w (badOf O c.fg) (a.tmps.getD t undef)) : St c ((t, A) :: env) O a w :=
  ⟨s.defers, s.size, s.sat, s.frame, fun u B hB => by
    by_cases hu : t = u
    · rw [look_cons_eq (p := (t, A)) hu] at hB; simp at hB; subst hB; subst hu; exact h
    · rw [look_cons_ne (p := (t, A)) hu] at hB; exact s.env u B hB⟩
end
theorem ownsRow_ro {α : Type} {w : World} {e : TypeId} {v : Value} {kd : Kd α} {xs : List α} {cs : List Value} {bad : Bad} (h : w.ownsRow 0 e kd.n v xs.length cs) (hk : All2 w bad (kd.cs xs) cs) (hb : ∀ b, v.ownBlock = some b → ¬ bad b) : (SlcA kd xs).P w bad v := by
  obtain ⟨hl, h⟩ := h
  rcases h with ⟨rfl, hn⟩ | ⟨g, cap, cur, rfl, _, hh, hle, _, hs, htk⟩
  · have hx : xs = [] := List.eq_nil_of_length_eq_zero hn
    subst hx
    exact ⟨none, 0, rfl, Nat.le_refl _, fun _ => rfl, .inl rfl⟩
  · refine ⟨_, cap, rfl, hle, (fun e => by cases e), .inr ⟨g, 0, cs, rfl, lt_of_heap hh, hb g rfl, hk, fun i hi => ?_⟩⟩
    rw [cell_of_row w g (0 + i) cur e (0, 0) hh, Nat.zero_add, ← htk, List.getElem?_take_of_lt (by omega)]
    simp
theorem Sat.front_free {w fg E O} (s : Sat w fg (E :: O)) : ∀ b ∈ E.bs, ¬ badOf O fg b := fun b hb x => by
  have hn := s.nodup
  simp only [keys, List.flatMap_cons, List.nodup_append] at hn
  rcases x with x | x
  · exact hn.2.2 b hb b x rfl
  · exact s.out b (by simp only [keys, List.flatMap_cons, List.mem_append]; exact .inl hb) x
theorem Sat.ext_drop (w : World) (fg : Bad) (E : Ent) (O : List Ent) : Ext w (badOf (E :: O) fg) w (badOf O fg) := ⟨Nat.le_refl _, fun b _ nb => ⟨rfl, fun x => nb (by rw [show E :: O = [E] ++ O by rfl, ← badOf_append]; exact .inr x)⟩⟩
theorem SlE.ro {α : Type} {w fg O} {e : TypeId} {v : Value} {kd : Kd α} {xs : List α} (s : Sat w fg (SlE e v kd xs :: O)) : (SlcA kd xs).P w (badOf O fg) v := by
  rcases s.holds _ (List.mem_cons_self ..) with ⟨rfl, a, rfl⟩ | ⟨g, hg, cs, hk, ho⟩
  · exact ⟨a, 0, rfl, Nat.le_refl _, fun _ => rfl, .inl rfl⟩
  · exact ownsRow_ro ho (hk.ext (Sat.ext_drop w fg _ O)) fun b hb => by
      rw [ownB_ownBlock hg] at hb; simp at hb; subst hb
      exact s.front_free g (by simp [SlE, hg])
/-- A slice of the call's own is written no more. -/
theorem StTo.freeze {c : Cx} {env : Env} {O Or : List Ent} {α : Type} {e : TypeId} {v : Value} {kd : Kd α} {xs : List α} (is : List Nat) (t : Nat) (hp : pick is O = some ([SlE e v kd xs], Or)) (hl : look env t = some (HdA v)) :
    StTo c env O ((t, SlcA kd xs) :: env) Or := fun a w s => by
  have s1 := s.perm (perm_pick hp)
  have h := SlE.ro (O := Or) s1.sat
  have hv : a.tmps.getD t undef = v ∧ v.oneCell' = true := s.env t _ hl
  have s2 : St c env Or a w := s1.drop
  exact s2.add (by rw [hv.1]; exact h)
/-- A variable is written no more. -/
theorem StTo.still {c : Cx} {env : Env} {O Or : List Ent} {b : Nat} {l : List Asn} (is : List Nat) (t : Nat) (hp : pick is O = some ([BoxE b l], Or)) (hl : look env t = some (EqA (.pointer (some ⟨b, 0, none⟩)))) :
    StTo c env O ((t, PtrA l) :: env) Or := fun a w s => by
  have s1 := s.perm (perm_pick hp)
  have hv : a.tmps.getD t undef = .pointer (some ⟨b, 0, none⟩) := s.env t _ hl
  obtain ⟨cs, el, hh, hk⟩ := s1.sat.holds _ (List.mem_append_left _ (List.mem_cons_self ..))
  have s2 : St c env Or a w := s1.drop
  refine s2.add ?_
  rw [hv]
  exact ⟨b, 0, cs, rfl, lt_of_heap hh, s1.sat.front_free (O := Or) b (by simp [BoxE]), hk.ext (Sat.ext_drop w c.fg _ Or), CellsAt.block hh⟩

section
variable {P : Program} {o : Oper}
/-! ### Reading owned memory -/
theorem Sat.at_ {w fg O} {i : Nat} {E : Ent} (s : Sat w fg O) (h : O[i]? = some E) : E.P w (badOf O fg) := s.holds E (List.mem_of_getElem? h)
theorem q_loadBS {fg : Bad} {O : List Ent} {t : TypeId} {x : Operand} {b off n i : Nat} {l l' : List Asn} (ho : o.op = .load t x) (hs : shapeOf P t = some (true, n)) (hO : O[i]? = some (BoxE b l)) (hn : Nat.ble (off + n) l.length = true) (hl : (l.drop off).take n = l') :
    QO P fg O [(x, EqA (.pointer (some ⟨b, off, none⟩)))] o (AggA l') := fun a w s nd => by
  have hv : a.eval x = .pointer (some ⟨b, off, none⟩) := nd.h0
  obtain ⟨cs, el, hh, hk⟩ := s.at_ hO
  subst hl
  have hlen := hk.length
  have hn' : off + n ≤ l.length := by simpa using hn
  refine Runs.value (v := .agg ((cs.drop off).take n).toArray) ?_ ⟨⟨_, rfl, (hk.drop off).take n⟩, Same.refl w⟩
  have hc : CellsAt w b off ((cs.drop off).take n) := by simpa using ((CellsAt.block hh).drop off).take n
  have := run_loadVar_agg (w := w) hs hc (by simp; omega)
  simp [execOp, ho, hv, Instr.loadAt, Instr.sureAddr, this]
theorem q_loadB {fg : Bad} {O : List Ent} {t : TypeId} {x : Operand} {b off n i : Nat} {l : List Asn} {A : Asn} (ho : o.op = .load t x) (hs : shapeOf P t = some (false, n)) (hO : O[i]? = some (BoxE b l)) (hA : l[off]? = some A) :
    QO P fg O [(x, EqA (.pointer (some ⟨b, off, none⟩)))] o A := fun a w s nd => by
  have hv : a.eval x = .pointer (some ⟨b, off, none⟩) := nd.h0
  obtain ⟨cs, el, hh, hk⟩ := s.at_ hO
  obtain ⟨v, hv', hAv⟩ := hk.get hA
  refine Runs.value (v := v) ?_ ⟨hAv, Same.refl w⟩
  have hc := CellsAt.block hh off (List.getElem?_eq_some_iff.1 hv').1
  rw [Nat.zero_add, hv'] at hc
  have := run_loadVar_one (P := P) hs hc
  simp [execOp, ho, hv, Instr.loadAt, Instr.sureAddr, this]
theorem q_lenO {fg : Bad} {O : List Ent} {x : Operand} {t : TypeId} {α : Type} {kd : Kd α} {xs : List α} {e : TypeId} {v : Value} {i : Nat} (ho : o.op = .call { callee := .builtin .len, args := #[x], argTypes := #[t] }) (he : (elOf P t).isSome = true) (hO : O[i]? = some (SlE e v kd xs)) :
    QO P fg O [(x, HdA v)] o (EqA (.int .i64 xs.length)) := fun a w s nd => by
  have hv : a.eval x = v ∧ _ := nd.h0
  obtain ⟨⟨e', n⟩, he⟩ := Option.isSome_iff_exists.1 he
  obtain ⟨hu, _⟩ := elOf_spec he
  refine Runs.value (v := .int .i64 xs.length) ?_ ⟨rfl, Same.refl w⟩
  rcases s.at_ hO with ⟨rfl, a', rfl⟩ | ⟨g, hg, cs, hk, _, ho'⟩
  · simp [execOp, ho, resolve, invoke, builtin, Builtin.len_, hv.1, underlying, hu, goInt]
  rcases ho' with ⟨rfl, hn⟩ | ⟨g, cap, cur, rfl, _⟩
  · simp [execOp, ho, resolve, invoke, builtin, Builtin.len_, hv.1, underlying, hu, goInt, hn]
  · simp [execOp, ho, resolve, invoke, builtin, Builtin.len_, hv.1, underlying, hu, goInt]
/-- The address of cell 'fo' of element 'i' of a slice of the call's own. -/
def ElA (v : Value) (n : Nat) (i : Int) (fo : Nat) : Asn := ⟨fun _ _ u => ∃ g, ownB v = some g ∧ u = .pointer (some ⟨g, i.toNat * n + fo, none⟩), fun _ h => h, true, fun _ _ _ u ⟨_, _, e⟩ => by subst e; rfl⟩
theorem q_indexO {fg : Bad} {O : List Ent} {α : Type} {kd : Kd α} {t e e' : TypeId} {x y : Operand} {xs : List α} {i : Int} {k : IntKind} {n j : Nat} {v : Value} (ho : o.op = .indexAddr t x y) (he : elOf P t = some (e, n)) (hO : O[j]? = some (SlE e' v kd xs))
    (h0 : 0 ≤ i) (h1 : i < xs.length) : QO P fg O [(x, HdA v), (y, EqA (.int k i))] o (ElA v n i 0) := fun a w s nd => by
  have hv : a.eval x = v ∧ _ := nd.h0
  have hy : a.eval y = .int k i := nd.tl.h0
  obtain ⟨hu, inf, hi, hsz⟩ := elOf_spec he
  rcases s.at_ hO with ⟨rfl, a', rfl⟩ | ⟨g', hg', cs, hk, _, ho'⟩
  · simp at h1; omega
  rcases ho' with ⟨rfl, hn'⟩ | ⟨g, cap, cur, rfl, _, hh, hnc, _⟩
  · simp [ownB] at hg'
  · refine Runs.value (v := .pointer (some ⟨g, i.toNat * n + 0, none⟩)) ?_ ⟨⟨g, ownB_mk g _ cap (by omega), rfl⟩, Same.refl w⟩
    simp [execOp, ho, hv.1, hy, Instr.indexAt, asIntOf, underlying, hu, h0, h1, sizeOf, typeInfo, hi, hsz, addr_add]
theorem q_fieldE {s : TypeId} {x : Operand} {j off fo n : Nat} {i : Int} {v : Value} (ho : o.op = .fieldAddr s x j) (hf : fieldOff P s j = some off) : QS P [(x, ElA v n i fo)] o (ElA v n i (fo + off)) := fun a w bad _ nd => by
  obtain ⟨g, hg, hv⟩ := nd.h0
  refine Runs.value (v := .pointer (some ⟨g, i.toNat * n + (fo + off), none⟩)) ?_ ⟨⟨g, hg, rfl⟩, Same.refl w⟩
  simp [execOp, ho, hv, run_fieldAt hf, Nat.add_assoc]
theorem SlE.cells {α : Type} {w : World} {bad : Bad} {e : TypeId} {v : Value} {kd : Kd α} {xs : List α} {g : Nat} (h : (SlE e v kd xs).P w bad) (hg : ownB v = some g) : ∃ cs cur cap, v = .slice (some ⟨g, 0, none⟩) xs.length cap ∧ xs.length ≤ cap ∧ cap ≤ maxLen ∧ All2 w bad (kd.cs xs) cs ∧
    w.heap[g]? = some (.cells cur e (0, 0)) ∧ cur.size = cap * kd.n ∧ cur.toList.take (xs.length * kd.n) = cs := by
  rcases h with ⟨_, a, rfl⟩ | ⟨_, _, cs, hk, hl, h⟩
  · simp [ownB] at hg
  rcases h with ⟨rfl, _⟩ | ⟨g', cap, cur, rfl, _, hh, hle, hcm, hs, htk⟩
  · simp [ownB] at hg
  · have hg := ownB_ownBlock hg; simp [Value.ownBlock] at hg; subst hg; exact ⟨cs, cur, cap, rfl, hle, hcm, hk, hh, hs, htk⟩
theorem q_loadEl {fg : Bad} {O : List Ent} {α : Type} [Inhabited α] {kd : Kd α} {t e' : TypeId} {x : Operand} {xs : List α} {i : Int} {n fo j m : Nat} {v : Value} {A : Asn} (ho : o.op = .load t x) (hs : shapeOf P t = some (false, m)) (hO : O[j]? = some (SlE e' v kd xs)) (hn : kd.n = n)
    (h0 : 0 ≤ i) (h1 : i < xs.length) (hA : (kd.c (rd xs i))[fo]? = some A) : QO P fg O [(x, ElA v n i fo)] o A := fun a w s nd => by
  obtain ⟨g, hg, hv⟩ := nd.h0
  obtain ⟨cs, cur, cap, hv', hle, hcm, hk, hh, hsz, htk⟩ := SlE.cells (s.at_ hO) hg
  subst hn
  have h4 := kd.cs_at xs i.toNat _ (rd_get h0 h1)
  have h5 : (kd.cs xs)[i.toNat * kd.n + fo]? = some A := by
    have hf : fo < kd.n := by have := (List.getElem?_eq_some_iff.1 hA).1; rwa [kd.len] at this
    rw [← h4, List.getElem?_take_of_lt hf, List.getElem?_drop] at hA
    exact hA
  obtain ⟨u, hu, hAu⟩ := hk.get h5
  refine Runs.value (v := u) ?_ ⟨hAu, Same.refl w⟩
  have hlt : i.toNat * kd.n + fo < xs.length * kd.n := by
    have h6 := (List.getElem?_eq_some_iff.1 h5).1
    rwa [kd.cs_length] at h6
  have hc : w.cell? ⟨g, i.toNat * kd.n + fo, none⟩ = some u := by
    rw [cell_of_row w g _ cur e' (0, 0) hh, ← hu, ← htk, List.getElem?_take_of_lt hlt]
    simp
  have := run_loadVar_one (P := P) hs hc
  simp [execOp, ho, hv, Instr.loadAt, Instr.sureAddr, this]
theorem q_loadElS {fg : Bad} {O : List Ent} {α : Type} [Inhabited α] {kd : Kd α} {t e' : TypeId} {x : Operand} {xs : List α} {i : Int} {n fo j m : Nat} {v : Value} {l' : List Asn} (ho : o.op = .load t x) (hs : shapeOf P t = some (true, m)) (hO : O[j]? = some (SlE e' v kd xs)) (hn : kd.n = n)
    (h0 : 0 ≤ i) (h1 : i < xs.length) (hm : Nat.ble (fo + m) n = true) (hl : ((kd.c (rd xs i)).drop fo).take m = l') : QO P fg O [(x, ElA v n i fo)] o (AggA l') := fun a w s nd => by
  obtain ⟨g, hg, hv⟩ := nd.h0
  obtain ⟨cs, cur, cap, hv', hle, hcm, hk, hh, hsz, htk⟩ := SlE.cells (s.at_ hO) hg
  subst hn hl
  have hm' : fo + m ≤ kd.n := by simpa using hm
  have h4 := kd.cs_at xs i.toNat _ (rd_get h0 h1)
  have hi : i.toNat < xs.length := by omega
  have hmul : i.toNat * kd.n + kd.n ≤ xs.length * kd.n := by rw [← Nat.succ_mul]; exact Nat.mul_le_mul_right _ hi
  have hlen : cs.length = xs.length * kd.n := by rw [hk.length, kd.cs_length]
  have hk2 := ((hk.drop (i.toNat * kd.n)).take kd.n)
  rw [h4] at hk2
  have hk3 := (hk2.drop fo).take m
  refine Runs.value (v := .agg ((((cs.drop (i.toNat * kd.n)).take kd.n).drop fo).take m).toArray) ?_ ⟨⟨_, rfl, hk3⟩, Same.refl w⟩
  have hc0 : CellsAt w g 0 cs := fun q hq => by
    rw [cell_of_row w g (0 + q) cur e' (0, 0) hh, Nat.zero_add, ← htk, List.getElem?_take_of_lt (by omega)]
    simp
  have hc : CellsAt w g (i.toNat * kd.n + fo) ((((cs.drop (i.toNat * kd.n)).take kd.n).drop fo).take m) := by
    have := (((hc0.drop (i.toNat * kd.n)).take kd.n).drop fo).take m
    simpa using this
  have := run_loadVar_agg (w := w) hs hc (by simp; omega)
  simp [execOp, ho, hv, Instr.loadAt, Instr.sureAddr, this]

/-! ### Writing an element -/
theorem Kd.cs_set {α : Type} [Inhabited α] (kd : Kd α) : ∀ (xs : List α) (i : Nat) (y : α), i < xs.length → kd.cs (xs.set i y) = (kd.cs xs).take (i * kd.n) ++ kd.c y ++ (kd.cs xs).drop (i * kd.n + kd.n)
  | [], _, _, h => by simp at h
  | x :: xs, 0, y, _ => by
    have h := kd.len x
    have e : List.flatMap kd.c (x :: xs) = kd.c x ++ List.flatMap kd.c xs := by simp
    simp only [List.set_cons_zero, Kd.cs, List.flatMap_cons, Nat.zero_mul, List.take_zero, List.nil_append, Nat.zero_add]
    rw [← h, List.drop_left]
  | x :: xs, i + 1, y, h => by
    have ih := Kd.cs_set kd xs i y (by simpa using h)
    have hx := kd.len x
    simp only [List.set_cons_succ, Kd.cs, List.flatMap_cons] at ih ⊢
    rw [ih, show (i + 1) * kd.n = (kd.c x).length + i * kd.n by rw [hx, Nat.succ_mul]; omega, List.take_length_add_append, show (kd.c x).length + i * kd.n + kd.n = (kd.c x).length + (i * kd.n + kd.n) by omega, List.drop_length_add_append]
    simp
theorem take_splice {β : Type} (L M : List β) (p N : Nat) (hp : p + M.length ≤ N) (hN : N ≤ L.length) : (L.take p ++ M ++ L.drop (p + M.length)).take N = (L.take N).take p ++ M ++ (L.take N).drop (p + M.length) := by
  have h1 : (L.take p ++ M).length = p + M.length := by simp; omega
  rw [List.take_append, List.take_of_length_le (by omega), h1, List.take_take, Nat.min_eq_left (by omega), List.drop_take]
theorem w_storeEl {α : Type} [Inhabited α] {kd : Kd α} {T e' : TypeId} {x y : Operand} {xs : List α} {i : Int} {n fo m : Nat} {v : Value} {A : Asn} {l' : List Asn} {z : α} {ag : Bool} (ho : o.op = .store T x y) (hs : shapeOf P T = some (ag, m)) (hA : CellsOf A l') (h1 : l'.all (·.cell) = true) (hm : l'.length = m)
    (hn : kd.n = n) (hi0 : 0 ≤ i) (hi1 : i < xs.length) (hz : place (kd.c (rd xs i)) fo l' = kd.c z) (hfo : Nat.ble (fo + m) n = true) :
    WS P [SlE e' v kd xs] [(x, ElA v n i fo), (y, A)] o (fun O' B => O' = [SlE e' v kd (xs.set i.toNat z)] ∧ B = AnyA) := WS.turn fun a w bad hlt hb hP nd => by
  obtain ⟨g, hg, hx⟩ := nd.h0
  have hy := hA _ _ _ nd.tl.h0
  obtain ⟨cs, cur, cap, hv', hle, hcm, hk, hh, hsz, htk⟩ := SlE.cells hP hg
  subst hn
  have hfo' : fo + m ≤ kd.n := by simpa using hfo
  have hi : i.toNat < xs.length := by omega
  have hmul : i.toNat * kd.n + kd.n ≤ xs.length * kd.n := by rw [← Nat.succ_mul]; exact Nat.mul_le_mul_right _ hi
  have hmul2 : xs.length * kd.n ≤ cap * kd.n := Nat.mul_le_mul_right _ hle
  have hlen : cs.length = xs.length * kd.n := by rw [hk.length, kd.cs_length]
  have hvs : (a.eval y).cells.size = m := by rw [← Array.length_toList, hy.length, hm]
  have hr := run_store_block (P := P) (off := i.toNat * kd.n + fo) hs hvs (All2.one h1 hy) (cs := cur.toList) (by simpa using hh) (by rw [Array.length_toList, hsz]; omega)
  have htu := Turn.setRow w g (cur.toList.take (i.toNat * kd.n + fo) ++ (a.eval y).cells.toList ++ cur.toList.drop (i.toNat * kd.n + fo + (a.eval y).cells.toList.length)).toArray
  have hbs : (SlE e' v kd xs).bs = [g] := by simp [SlE, hg]
  have hbs' : (SlE e' v kd (xs.set i.toNat z)).bs = [g] := by simp [SlE, hg]
  refine Runs.skip ?_ ⟨SlE e' v kd (xs.set i.toNat z), AnyA, ⟨rfl, rfl⟩, by rw [hbs, hbs']; exact htu, ?_, trivial⟩
  · simp only [execOp, ho, hx, Sem.run_bind, hr]; rfl
  · have hx := htu.ext (bad := bad) (by rw [← hbs]; exact hb)
    rw [hbs, hbs']
    -- the new cells
    have h4 := kd.cs_at xs i.toNat _ (rd_get hi0 hi1)
    have hcs : kd.cs (xs.set i.toNat z) = (kd.cs xs).take (i.toNat * kd.n + fo) ++ l' ++ (kd.cs xs).drop (i.toNat * kd.n + fo + m) := by
      rw [kd.cs_set xs i.toNat z hi, ← hz, ← h4]
      unfold place
      have hL : (kd.cs xs).length = xs.length * kd.n := kd.cs_length xs
      rw [hm]
      have e1 : (kd.cs xs).take (i.toNat * kd.n + fo) = (kd.cs xs).take (i.toNat * kd.n) ++ (((kd.cs xs).drop (i.toNat * kd.n)).take kd.n).take fo := by
        rw [List.take_take, Nat.min_eq_left (by omega), ← List.take_add]
      have e2 : (kd.cs xs).drop (i.toNat * kd.n + fo + m) = (((kd.cs xs).drop (i.toNat * kd.n)).take kd.n).drop (fo + m) ++ (kd.cs xs).drop (i.toNat * kd.n + kd.n) := by
        have e3 : (kd.cs xs).drop (i.toNat * kd.n) = ((kd.cs xs).drop (i.toNat * kd.n)).take kd.n ++ ((kd.cs xs).drop (i.toNat * kd.n)).drop kd.n := (List.take_append_drop _ _).symm
        have e4 : (kd.cs xs).drop (i.toNat * kd.n + fo + m) = ((kd.cs xs).drop (i.toNat * kd.n)).drop (fo + m) := by rw [List.drop_drop]; congr 1; omega
        rw [e4]
        conv => lhs; rw [e3]
        rw [List.drop_append_of_le_length (by simp [hL]; omega), List.drop_drop]
      rw [e1, e2]; simp
    have hnew := (((hk.take (i.toNat * kd.n + fo)).append hy).append (hk.drop (i.toNat * kd.n + fo + m))).ext hx
    refine .inr ⟨g, hg, cs.take (i.toNat * kd.n + fo) ++ (a.eval y).cells.toList ++ cs.drop (i.toNat * kd.n + fo + m), by rw [hcs]; exact hnew, ?_, ?_⟩
    · simp [hlen, hvs]; omega
    · refine .inr ⟨g, cap, _, by simpa using hv', Nat.zero_le _, setRow_heap w g _ _ e' _ hh, by simpa using hle, hcm, ?_, ?_⟩
      · simp [hsz, hvs]; omega
      · simp only [List.length_set]
        rw [← htk]
        have hL2 : (a.eval y).cells.toList.length = m := by rw [Array.length_toList, hvs]
        have hcl : cur.toList.length = cap * kd.n := by simp [hsz]
        have := take_splice cur.toList (a.eval y).cells.toList (i.toNat * kd.n + fo) (xs.length * kd.n) (by omega) (by omega)
        rw [hL2] at this ⊢
        exact this
end
end Go.Abs
