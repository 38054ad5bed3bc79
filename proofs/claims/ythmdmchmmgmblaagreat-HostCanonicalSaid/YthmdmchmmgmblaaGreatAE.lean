/- Tables (own slices in an own slice), bits, shifts, min. -/
import Derived.Test.YthmdmchmmgmblaaGreatAD
namespace Go.Abs
open Go Go.RowKit

/-! ### A table: an own slice whose elements are own slices -/
/-- A value that is known: a cell that holds it. -/
def kVal : Kd Value := ⟨1, fun u => [HdA u], fun _ => rfl, fun _ => rfl⟩
def rowsE {α : Type} (e2 : TypeId) (kd : Kd α) : List Value → List (List α) → List Ent
  | u :: vs, xs :: xss => SlE e2 u kd xs :: rowsE e2 kd vs xss
  | _, _ => []
def tbL {α : Type} (e e2 : TypeId) (v : Value) (kd : Kd α) (vs : List Value) (xss : List (List α)) : List Ent := SlE e v kVal vs :: rowsE e2 kd vs xss
def TbE {α : Type} (e e2 : TypeId) (v : Value) (kd : Kd α) (vs : List Value) (xss : List (List α)) : Ent :=
  ⟨keys (tbL e e2 v kd vs xss), fun w bad => vs.length = xss.length ∧ (keys (tbL e e2 v kd vs xss)).Nodup ∧ ∀ E ∈ tbL e e2 v kd vs xss, E.P w bad,
   fun h hb ⟨l, n, k⟩ => ⟨l, n, fun E hE => E.ext h (fun b hb' => hb b (List.mem_flatMap.2 ⟨E, hE, hb'⟩)) (k E hE)⟩,
   fun ⟨_, _, k⟩ b hb => by obtain ⟨E, hE, hb'⟩ := List.mem_flatMap.1 hb; exact E.lt (k E hE) b hb'⟩
section
variable {α : Type} {e e2 : TypeId} {v : Value} {kd : Kd α} {vs : List Value} {xss : List (List α)} {w : World} {fg : Bad} {O : List Ent}
theorem keys_tb : keys (TbE e e2 v kd vs xss :: O) = keys (tbL e e2 v kd vs xss ++ O) := by rw [keys_append]; simp [keys, TbE]
theorem badOf_tb : badOf (TbE e e2 v kd vs xss :: O) fg = badOf (tbL e e2 v kd vs xss ++ O) fg := by funext b; simp only [badOf, keys_tb]
theorem Sat.tbOpen (s : Sat w fg (TbE e e2 v kd vs xss :: O)) : vs.length = xss.length ∧ Sat w fg (tbL e e2 v kd vs xss ++ O) := by
  obtain ⟨hl, hn, hk⟩ := s.holds _ (List.mem_cons_self ..)
  refine ⟨hl, by rw [← keys_tb]; exact s.nodup, by rw [← keys_tb]; exact s.out, s.lt, fun E hE => ?_⟩
  rw [← badOf_tb]
  rcases List.mem_append.1 hE with hE | hE
  · exact hk E hE
  · exact s.holds E (List.mem_cons_of_mem _ hE)
theorem Sat.tbClose (hl : vs.length = xss.length) (s : Sat w fg (tbL e e2 v kd vs xss ++ O)) : Sat w fg (TbE e e2 v kd vs xss :: O) := by
  have hn := s.nodup
  refine ⟨by rw [keys_tb]; exact hn, by rw [keys_tb]; exact s.out, s.lt, fun E hE => ?_⟩
  rw [badOf_tb]
  rcases List.mem_cons.1 hE with rfl | hE
  · rw [keys_append, List.nodup_append] at hn
    exact ⟨hl, hn.1, fun E hE => s.holds E (List.mem_append_left _ hE)⟩
  · exact s.holds E (List.mem_append_right _ hE)
theorem rows_perm : ∀ {vs : List Value} {xss : List (List α)} {i : Nat} {u : Value} {xs : List α}, vs[i]? = some u → xss[i]? = some xs →
    ∃ R, (rowsE e2 kd vs xss).Perm (SlE e2 u kd xs :: R) ∧ ∀ ys, (rowsE e2 kd vs (xss.set i ys)).Perm (SlE e2 u kd ys :: R)
  | [], _, _, _, _, h, _ => by simp at h
  | _ :: _, [], _, _, _, _, h => by simp at h
  | u :: vs, xs :: xss, 0, _, _, h1, h2 => by
    simp at h1 h2; subst h1; subst h2
    exact ⟨rowsE e2 kd vs xss, List.Perm.refl _, fun ys => by simp [rowsE]⟩
  | u' :: vs, xs' :: xss, i + 1, u, xs, h1, h2 => by
    obtain ⟨R, p, q⟩ := rows_perm (show vs[i]? = some u by simpa using h1) (show xss[i]? = some xs by simpa using h2)
    refine ⟨SlE e2 u' kd xs' :: R, ?_, fun ys => ?_⟩
    · exact (List.Perm.cons _ p).trans (List.Perm.swap _ _ _)
    · simp only [List.set_cons_succ, rowsE]
      exact (List.Perm.cons _ (q ys)).trans (List.Perm.swap _ _ _)
theorem tb_row {i : Int} (hl : vs.length = xss.length) (h0 : 0 ≤ i) (h1 : i < xss.length) : ∃ R, (tbL e e2 v kd vs xss).Perm (SlE e2 (rd vs i) kd (rd xss i) :: R) ∧ ∀ ys, (tbL e e2 v kd vs (xss.set i.toNat ys)).Perm (SlE e2 (rd vs i) kd ys :: R) := by
  obtain ⟨R, p, q⟩ := rows_perm (e2 := e2) (kd := kd) (rd_get (xs := vs) h0 (by omega)) (rd_get h0 h1)
  exact ⟨SlE e v kVal vs :: R, (List.Perm.cons _ p).trans (List.Perm.swap _ _ _), fun ys => (List.Perm.cons _ (q ys)).trans (List.Perm.swap _ _ _)⟩
end
section
variable {P : Program} {o : Oper} {α : Type} {e e2 : TypeId} {v : Value} {kd : Kd α} {vs : List Value} {xss : List (List α)} {fg : Bad} {O : List Ent} {nd : List (Operand × Asn)} {A : Asn} {j : Nat}
/-- Reading the outer slice. -/
theorem q_out (hO : O[j]? = some (TbE e e2 v kd vs xss)) (h : vs.length = xss.length → ∀ O', QO P fg (SlE e v kVal vs :: O') nd o A) : QO P fg O nd o A := fun a w s n => by
  have p1 := perm_pick1 hO
  obtain ⟨hl, s2⟩ := (s.perm p1).tbOpen
  have hb : badOf (SlE e v kVal vs :: (rowsE e2 kd vs xss ++ O.eraseIdx j)) fg = badOf O fg := by
    rw [badOf_perm p1 fg, badOf_tb]; rfl
  have := h hl (rowsE e2 kd vs xss ++ O.eraseIdx j) a w s2 (by rw [hb]; exact n)
  rwa [hb] at this
/-- Reading a row. -/
theorem q_row {i : Int} (hO : O[j]? = some (TbE e e2 v kd vs xss)) (h0 : 0 ≤ i) (h1 : i < xss.length) (h : ∀ O', QO P fg (SlE e2 (rd vs i) kd (rd xss i) :: O') nd o A) : QO P fg O nd o A := fun a w s n => by
  have p1 := perm_pick1 hO
  obtain ⟨hl, s2⟩ := (s.perm p1).tbOpen
  obtain ⟨R, p, _⟩ := tb_row (e := e) (e2 := e2) (v := v) (kd := kd) hl h0 h1
  have p2 := List.Perm.append_right (O.eraseIdx j) p
  have hb : badOf (SlE e2 (rd vs i) kd (rd xss i) :: (R ++ O.eraseIdx j)) fg = badOf O fg := by
    rw [badOf_perm p1 fg, badOf_tb, badOf_perm p2 fg]; rfl
  have := h (R ++ O.eraseIdx j) a w (s2.perm p2) (by rw [hb]; exact n)
  rwa [hb] at this
theorem q_indexT {t e' : TypeId} {x y : Operand} {i : Int} {k : IntKind} (ho : o.op = .indexAddr t x y) (he : elOf P t = some (e', 1)) (hO : O[j]? = some (TbE e e2 v kd vs xss)) (h0 : 0 ≤ i) (h1 : i < xss.length) :
    QO P fg O [(x, HdA v), (y, EqA (.int k i))] o (ElA v 1 i 0) := q_out hO fun hl O' => q_indexO (j := 0) ho he rfl h0 (by omega)
theorem q_loadT {t : TypeId} {x : Operand} {i : Int} {m : Nat} (ho : o.op = .load t x) (hs : shapeOf P t = some (false, m)) (hO : O[j]? = some (TbE e e2 v kd vs xss)) (h0 : 0 ≤ i) (h1 : i < xss.length) :
    QO P fg O [(x, ElA v 1 i 0)] o (HdA (rd vs i)) := q_out hO fun hl O' => q_loadEl (j := 0) (kd := kVal) ho hs rfl rfl h0 (by omega) rfl
theorem q_lenT {x : Operand} {t : TypeId} (ho : o.op = .call { callee := .builtin .len, args := #[x], argTypes := #[t] }) (he : (elOf P t).isSome = true) (hO : O[j]? = some (TbE e e2 v kd vs xss)) :
    QO P fg O [(x, HdA v)] o (EqA (.int .i64 xss.length)) := q_out hO fun hl O' => by rw [← hl]; exact q_lenO (i := 0) ho he rfl
theorem q_lenR {x : Operand} {t : TypeId} {i : Int} (ho : o.op = .call { callee := .builtin .len, args := #[x], argTypes := #[t] }) (he : (elOf P t).isSome = true) (hO : O[j]? = some (TbE e e2 v kd vs xss)) (h0 : 0 ≤ i) (h1 : i < xss.length) :
    QO P fg O [(x, HdA (rd vs i))] o (EqA (.int .i64 (rd xss i).length)) := q_row hO h0 h1 fun O' => q_lenO (i := 0) ho he rfl
theorem q_indexR {t e' : TypeId} {x y : Operand} {i q : Int} {k : IntKind} {n : Nat} (ho : o.op = .indexAddr t x y) (he : elOf P t = some (e', n)) (hO : O[j]? = some (TbE e e2 v kd vs xss)) (h0 : 0 ≤ i) (h1 : i < xss.length) (g0 : 0 ≤ q) (g1 : q < (rd xss i).length) :
    QO P fg O [(x, HdA (rd vs i)), (y, EqA (.int k q))] o (ElA (rd vs i) n q 0) := q_row hO h0 h1 fun O' => q_indexO (j := 0) ho he rfl g0 g1
theorem q_loadR [Inhabited α] {t : TypeId} {x : Operand} {i q : Int} {n fo m : Nat} (ho : o.op = .load t x) (hs : shapeOf P t = some (false, m)) (hO : O[j]? = some (TbE e e2 v kd vs xss)) (hn : kd.n = n) (h0 : 0 ≤ i) (h1 : i < xss.length)
    (g0 : 0 ≤ q) (g1 : q < (rd xss i).length) (hA : (kd.c (rd (rd xss i) q))[fo]? = some A) : QO P fg O [(x, ElA (rd vs i) n q fo)] o A := q_row hO h0 h1 fun O' => q_loadEl (j := 0) ho hs rfl hn g0 g1 hA
/-- Writing in a row. -/
theorem WS.row {i : Int} {zs : List α} (h0 : 0 ≤ i) (h1 : i < xss.length) (h : WS P [SlE e2 (rd vs i) kd (rd xss i)] nd o (fun O' B => O' = [SlE e2 (rd vs i) kd zs] ∧ B = AnyA)) :
    WS P [TbE e e2 v kd vs xss] nd o (fun O' B => O' = [TbE e e2 v kd vs (xss.set i.toNat zs)] ∧ B = AnyA) := fun fg a w s n => by
  obtain ⟨hl, s2⟩ := s.tbOpen
  rw [List.append_nil] at s2
  obtain ⟨R, p, q⟩ := tb_row (e := e) (e2 := e2) (v := v) (kd := kd) hl h0 h1
  have s3 : Sat w fg ([SlE e2 (rd vs i) kd (rd xss i)] ++ R) := s2.perm p
  have hb : badOf [TbE e e2 v kd vs xss] fg = badOf [SlE e2 (rd vs i) kd (rd xss i)] (badOf R fg) := by
    rw [badOf_append, badOf_tb, List.append_nil, badOf_perm p fg]; rfl
  refine (h (badOf R fg) a w s3.left (by rw [← hb]; exact n)).mono ?_
  rintro v' w' ⟨_, _, ⟨rfl, rfl⟩, s', f, _⟩
  have hm := Sat.merge s3 s' f
  have s4 : Sat w' fg (tbL e e2 v kd vs (xss.set i.toNat zs)) := hm.perm (q zs).symm
  have fw := f.wide (Or := R)
  have k1 : ∀ b, b ∈ keys [TbE e e2 v kd vs xss] ↔ b ∈ keys ([SlE e2 (rd vs i) kd (rd xss i)] ++ R) := fun b => by rw [keys_tb, List.append_nil]; exact (keys_perm p).mem_iff
  have k2 : ∀ b, b ∈ keys [TbE e e2 v kd vs (xss.set i.toNat zs)] ↔ b ∈ keys ([SlE e2 (rd vs i) kd zs] ++ R) := fun b => by rw [keys_tb, List.append_nil]; exact (keys_perm (q zs)).mem_iff
  refine ⟨_, _, ⟨rfl, rfl⟩, Sat.tbClose (by simpa using hl) (by rw [List.append_nil]; exact s4), ⟨fw.os, fw.tape, fw.output, fw.size, fun b hlt nb => ?_⟩, trivial⟩
  obtain ⟨g1, g2⟩ := fw.keep b hlt (fun x => nb ((k1 b).2 x))
  exact ⟨g1, fun x => g2 ((k2 b).1 x)⟩
theorem w_storeR [Inhabited α] {T : TypeId} {x y : Operand} {i q : Int} {n fo m : Nat} {l' : List Asn} {z : α} {ag : Bool} (ho : o.op = .store T x y) (hs : shapeOf P T = some (ag, m)) (hA : CellsOf A l') (hc : l'.all (·.cell) = true) (hm : l'.length = m)
    (hn : kd.n = n) (h0 : 0 ≤ i) (h1 : i < xss.length) (g0 : 0 ≤ q) (g1 : q < (rd xss i).length) (hz : place (kd.c (rd (rd xss i) q)) fo l' = kd.c z) (hfo : Nat.ble (fo + m) n = true) :
    WS P [TbE e e2 v kd vs xss] [(x, ElA (rd vs i) n q fo), (y, A)] o (fun O' B => O' = [TbE e e2 v kd vs (xss.set i.toNat ((rd xss i).set q.toNat z))] ∧ B = AnyA) :=
  WS.row h0 h1 (w_storeEl ho hs hA hc hm hn g0 g1 hz hfo)
theorem rowsE_append {u : Value} {xs : List α} : ∀ {vs : List Value} {xss : List (List α)}, vs.length = xss.length → rowsE e2 kd (vs ++ [u]) (xss ++ [xs]) = rowsE e2 kd vs xss ++ [SlE e2 u kd xs]
  | [], [], _ => rfl
  | _ :: vs, _ :: xss, h => by simp only [List.cons_append, rowsE]; rw [rowsE_append (by simpa using h)]
  | [], _ :: _, h => by simp at h
  | _ :: _, [], h => by simp at h
def RTab {α : Type} (e e2 : TypeId) (kd : Kd α) (zss : List (List α)) (O' : List Ent) (A : Asn) : Prop := ∃ g : Value × List Value, O' = [TbE e e2 g.1 kd g.2 zss] ∧ A = HdA g.1
/-- An own slice becomes the last row. -/
theorem w_appendT {t : TypeId} {s x : Operand} {u : Value} {xs : List α} (ho : o.op = .call { callee := .builtin .append, args := #[s, x], argTypes := #[t, t] }) (he : elOf P t = some (e, 1)) (hg : growOk P e 1 = true) (hlim : xss.length + 1 ≤ lim) :
    WS P [TbE e e2 v kd vs xss, SlE e2 u kd xs] [(s, HdA v), (x, SlcA kVal [u])] o (RTab e e2 kd (xss ++ [xs])) := fun fg a w s1 n => by
  obtain ⟨hl, s2⟩ := s1.tbOpen
  have h := w_append (P := P) (o := o) (kd := kVal) (t := t) (e := e) (n := 1) (s := s) (x := x) (xs := vs) (ys := [u]) (v := v) ho he rfl hg (by simpa [hl] using hlim)
  have s3 : Sat w fg ([SlE e v kVal vs] ++ (rowsE e2 kd vs xss ++ [SlE e2 u kd xs])) := s2
  have hb : badOf [TbE e e2 v kd vs xss, SlE e2 u kd xs] fg = badOf [SlE e v kVal vs] (badOf (rowsE e2 kd vs xss ++ [SlE e2 u kd xs]) fg) := by
    rw [badOf_append, badOf_tb]; rfl
  refine (h _ a w s3.left (by rw [← hb]; exact n)).mono ?_
  rintro v1 w' ⟨_, _, ⟨v', rfl, rfl⟩, s', f, hA⟩
  have hm := Sat.merge s3 s' f
  have fw := f.wide (Or := rowsE e2 kd vs xss ++ [SlE e2 u kd xs])
  have e1 : tbL e e2 v' kd (vs ++ [u]) (xss ++ [xs]) = [SlE e v' kVal (vs ++ [u])] ++ (rowsE e2 kd vs xss ++ [SlE e2 u kd xs]) := by simp [tbL, rowsE_append hl]
  have hb2 : badOf [TbE e e2 v' kd (vs ++ [u]) (xss ++ [xs])] fg = badOf [SlE e v' kVal (vs ++ [u])] (badOf (rowsE e2 kd vs xss ++ [SlE e2 u kd xs]) fg) := by
    rw [badOf_append, badOf_tb, List.append_nil, e1]
  refine ⟨_, _, ⟨(v', vs ++ [u]), rfl, rfl⟩, Sat.tbClose (by simp [hl]) (by rw [List.append_nil, e1]; exact hm), ⟨fw.os, fw.tape, fw.output, fw.size, fun b hlt nb => ?_⟩, by rw [hb2]; exact hA⟩
  have k1 : keys [TbE e e2 v kd vs xss, SlE e2 u kd xs] = keys ([SlE e v kVal vs] ++ (rowsE e2 kd vs xss ++ [SlE e2 u kd xs])) := by rw [keys_tb]; rfl
  have k2 : keys [TbE e e2 v' kd (vs ++ [u]) (xss ++ [xs])] = keys ([SlE e v' kVal (vs ++ [u])] ++ (rowsE e2 kd vs xss ++ [SlE e2 u kd xs])) := by rw [keys_tb, List.append_nil, e1]
  rw [k1] at nb; rw [k2]
  exact fw.keep b hlt nb
end
section
variable {c : Cx} {env : Env} {O Or : List Ent} {α : Type}
theorem StTo.newNilT (e e2 : TypeId) (kd : Kd α) : StTo c env O env (TbE e e2 (.slice none 0 0) kd [] ([] : List (List α)) :: O) := fun a w s => by
  have hk : keys (TbE e e2 (.slice none 0 0) kd [] ([] : List (List α)) :: O) = keys O := rfl
  have hb : badOf (TbE e e2 (.slice none 0 0) kd [] ([] : List (List α)) :: O) c.fg = badOf O c.fg := by funext b; simp [badOf, hk]
  refine ⟨s.defers, s.size, ⟨by rw [hk]; exact s.sat.nodup, by rw [hk]; exact s.sat.out, s.sat.lt, fun E hE => ?_⟩, ⟨s.frame.os, s.frame.tape, s.frame.output, s.frame.size, fun b hb nb => by rw [hk]; exact s.frame.keep b hb nb⟩, by rw [hb]; exact s.env⟩
  rw [hb]
  rcases List.mem_cons.1 hE with rfl | hE
  · refine ⟨rfl, by simp [tbL, rowsE, keys, SlE, ownB], fun E hE => ?_⟩
    simp only [tbL, rowsE, List.mem_singleton] at hE; subst hE
    exact SlE.nil_holds e kVal w _
  · exact s.sat.holds E hE
theorem rows_known {w : World} {bad : Bad} {e2 : TypeId} {kd : Kd α} : ∀ {vs : List Value} {xss : List (List α)} {cs : List Value}, vs.length = xss.length → (∀ u xs, SlE e2 u kd xs ∈ rowsE e2 kd vs xss → (SlcA kd xs).P w bad u) → All2 w bad (kVal.cs vs) cs → All2 w bad ((kSl kd).cs xss) cs
  | [], [], [], _, _, _ => trivial
  | u :: vs, xs :: xss, c :: cs, hl, hr, ⟨h1, h2⟩ => by
    refine ⟨?_, rows_known (vs := vs) (xss := xss) (by simpa using hl) (fun u xs h => hr u xs (List.mem_cons_of_mem _ h)) h2⟩
    have : c = u := h1.1
    subst this
    exact hr c xs (List.mem_cons_self ..)
  | [], [], _ :: _, _, _, h => h.elim
  | [], _ :: _, _, h, _, _ => by simp at h
  | _ :: _, [], _, h, _, _ => by simp at h
  | _ :: _, _ :: _, [], _, _, h => h.elim
theorem TbE.ro {e e2 : TypeId} {v : Value} {kd : Kd α} {vs : List Value} {xss : List (List α)} {w : World} {fg : Bad} (s : Sat w fg (TbE e e2 v kd vs xss :: Or)) : (SlcA (kSl kd) xss).P w (badOf Or fg) v := by
  obtain ⟨hlen, s2⟩ := s.tbOpen
  have h1 := SlE.ro (O := rowsE e2 kd vs xss ++ Or) s2
  have key : ∀ b, b ∈ keys (rowsE e2 kd vs xss) → ¬ badOf Or fg b := fun b hb x => by
    have hn := s2.nodup
    have : keys (tbL e e2 v kd vs xss ++ Or) = (ownB v).toList ++ (keys (rowsE e2 kd vs xss) ++ keys Or) := by simp [tbL, keys, SlE]
    rw [this] at hn
    rcases x with x | x
    · exact (List.nodup_append.1 (List.nodup_append.1 hn).2.1).2.2 b hb b x rfl
    · exact s2.out b (by rw [this]; simp [hb]) x
  have hx : Ext w (badOf (rowsE e2 kd vs xss ++ Or) fg) w (badOf Or fg) := ⟨Nat.le_refl _, fun b _ nb => ⟨rfl, fun x => nb (by rw [← badOf_append]; exact .inr x)⟩⟩
  obtain ⟨base, cap, e1, hc, hn, k⟩ := h1
  have hlen2 : vs.length = xss.length := hlen
  refine ⟨base, cap, by rw [e1, hlen2], by omega, hn, ?_⟩
  rcases k with rfl | ⟨b, o, cs, hb, hlt, nb, k, hcell⟩
  · exact .inl (List.eq_nil_of_length_eq_zero (by simpa using hlen2.symm))
  · refine .inr ⟨b, o, cs, hb, hlt, (hx.keep b hlt nb).2, ?_, hcell⟩
    refine rows_known (e2 := e2) hlen2 (fun u xs hm => ?_) (k.ext hx)
    have hE : SlE e2 u kd xs ∈ tbL e e2 v kd vs xss ++ Or := by simp [tbL, hm]
    have hP := s2.holds _ hE
    have hbs : ∀ b ∈ (SlE e2 u kd xs).bs, b ∈ keys (rowsE e2 kd vs xss) := fun b hb => List.mem_flatMap.2 ⟨_, hm, hb⟩
    have hx2 : Ext w (badOf (tbL e e2 v kd vs xss ++ Or) fg) w (badOf Or fg) := ⟨Nat.le_refl _, fun b _ nb => ⟨rfl, fun x => nb (by rw [← badOf_append]; exact .inr x)⟩⟩
    rcases hP with ⟨rfl, a', rfl⟩ | ⟨g, hg, cs', hk', ho⟩
    · exact ⟨a', 0, rfl, Nat.le_refl _, fun _ => rfl, .inl rfl⟩
    · exact ownsRow_ro ho (hk'.ext hx2) fun b hb => by
        rw [ownB_ownBlock hg] at hb; simp at hb; subst hb
        exact key g (hbs g (by simp [SlE, hg]))
/-- A table is written no more. -/
theorem StTo.freezeT {e e2 : TypeId} {v : Value} {kd : Kd α} {vs : List Value} {xss : List (List α)} (is : List Nat) (t : Nat) (hp : pick is O = some ([TbE e e2 v kd vs xss], Or)) (hl : look env t = some (HdA v)) :
    StTo c env O ((t, SlcA (kSl kd) xss) :: env) Or := fun a w s => by
  have s1 := s.perm (perm_pick hp)
  have hv : a.tmps.getD t undef = v ∧ v.oneCell' = true := s.env t _ hl
  have s3 : St c env Or a w := s1.drop
  exact s3.add (by rw [hv.1]; exact TbE.ro (Or := Or) s1.sat)
theorem Lend.tab {fg O} {e e2 : TypeId} {v : Value} {kd : Kd α} {vs : List Value} {xss : List (List α)} (i : Nat) (h : O[i]? = some (TbE e e2 v kd vs xss)) : Lend fg O (HdA v) (SlcA (kSl kd) xss) := fun w u s hu => by
  obtain ⟨rfl, _⟩ := hu
  exact (SlcA (kSl kd) xss).ext ⟨Nat.le_refl _, fun b _ nb => ⟨rfl, fun x => nb (.inr x)⟩⟩ (TbE.ro (s.perm (perm_pick1 h)))
end

/-! ### Bits, shifts, min -/
def bAnd (k : IntKind) (m n : Int) : Int := k.wrap (BitVec.ofInt k.bits m &&& BitVec.ofInt k.bits n).toNat
def bOr (k : IntKind) (m n : Int) : Int := k.wrap (BitVec.ofInt k.bits m ||| BitVec.ofInt k.bits n).toNat
def bXor (k : IntKind) (m n : Int) : Int := k.wrap (BitVec.ofInt k.bits m ^^^ BitVec.ofInt k.bits n).toNat
def bAndNot (k : IntKind) (m n : Int) : Int := k.wrap (BitVec.ofInt k.bits m &&& ~~~ BitVec.ofInt k.bits n).toNat
def shR (k : IntKind) (m n : Int) : Int := m.fdiv (2 ^ (min n.toNat k.bits))
def shL (k : IntKind) (m n : Int) : Int := k.wrap (m * 2 ^ (min n.toNat k.bits))
def minI (m n : Int) : Int := if n < m then n else m
section
variable {P : Program} {o : Oper}
theorem q_bits {op : BinOp} {xt yt : TypeId} {x y : Operand} {k : IntKind} {m n r : Int} (ho : o.op = .binOp op xt x y yt)
    (hr : (match op with | .and => some (bAnd k m n) | .or => some (bOr k m n) | .xor => some (bXor k m n) | .andNot => some (bAndNot k m n) | _ => none) = some r) :
    QS P [(x, EqA (.int k m)), (y, EqA (.int k n))] o (EqA (.int k r)) := fun a w bad _ nd => by
  have hx : a.eval x = .int k m := nd.h0
  have hy : a.eval y = .int k n := nd.tl.h0
  refine Runs.value (v := .int k r) ?_ ⟨rfl, Same.refl w⟩
  cases op <;> simp only [Option.some.injEq, reduceCtorEq] at hr <;> subst hr <;> simp [execOp, ho, hx, hy, eqGuard, binOp, Op.intBits, bAnd, bOr, bXor, bAndNot]
theorem q_shrN {xt yt : TypeId} {x y : Operand} {k k' : IntKind} {m n : Int} (ho : o.op = .binOp .shr xt x y yt) (hn : 0 ≤ n) :
    QS P [(x, EqA (.int k m)), (y, EqA (.int k' n))] o (EqA (.int k (shR k m n))) := q_shr ho hn
theorem q_shlN {xt yt : TypeId} {x y : Operand} {k k' : IntKind} {m n : Int} (ho : o.op = .binOp .shl xt x y yt) (hn : 0 ≤ n) :
    QS P [(x, EqA (.int k m)), (y, EqA (.int k' n))] o (EqA (.int k (shL k m n))) := q_shl ho hn
theorem q_min {x y : Operand} {ts : Array TypeId} {k : IntKind} {m n : Int} (ho : o.op = .call { callee := .builtin .min, args := #[x, y], argTypes := ts }) :
    QS P [(x, EqA (.int k m)), (y, EqA (.int k n))] o (EqA (.int k (minI m n))) := fun a w bad _ nd => by
  have hx : a.eval x = .int k m := nd.h0
  have hy : a.eval y = .int k n := nd.tl.h0
  refine Runs.value (v := .int k (minI m n)) ?_ ⟨rfl, Same.refl w⟩
  simp [execOp, ho, resolve, invoke, builtin, Builtin.min_, Builtin.min2, hx, hy, minI]
end
end Go.Abs
