/- More steps: append, literals, make, parts of slices and strings, structs; results. -/
import Derived.Test.YthmdmchmmgmblaaGreatA4
namespace Go.Abs
open Go Go.RowKit

/-- No list that grows passes this. -/
def lim : Nat := 4294967296
theorem ownsRow_append {w w' : World} {row : Option Nat} {α : Type} {kd : Kd α} {e : TypeId} {v v' : Value} {xs ys : List α} {bad : Bad} {cs news : List Value} (hb : ∀ b, ownB v = some b → bad b) (hk : All2 w bad (kd.cs xs) cs) (hn : All2 w bad (kd.cs ys) news)
    (ho : w'.ownsRow 0 e kd.n v' (xs.length + ys.length) (cs ++ news)) (hg : w.grownBy w' row) (hrow : ∀ b, row = some b → ownB v = some b ∨ w.heap.size ≤ b) (hnew : ∀ b, ownB v' = some b → ownB v = some b ∨ w.heap.size ≤ b) :
    Turn w (SlE e v kd xs).bs w' (SlE e v' kd (xs ++ ys)).bs ∧ (SlE e v' kd (xs ++ ys)).P w' (badTo bad (SlE e v kd xs).bs (SlE e v' kd (xs ++ ys)).bs) := by
  have t : Turn w (SlE e v kd xs).bs w' (SlE e v' kd (xs ++ ys)).bs := ⟨hg.os, hg.tape, hg.output, hg.size, fun b hlt hb => hg.block b hlt (fun h => by
    rcases hrow b h.symm with h | h
    · exact hb (by simp [SlE, h])
    · omega), by simp only [SlE]; cases ownB v' <;> simp, fun b hb => by
      simp only [SlE, Option.mem_toList] at hb ⊢
      exact hnew b hb⟩
  refine ⟨t, ?_⟩
  have hall := (hk.append hn).ext (t.ext fun b hb' => hb b (by simpa [SlE] using hb'))
  rw [← kd.cs_append] at hall
  cases hv' : ownB v' with
  | some g => exact .inr ⟨g, hv', cs ++ news, hall, by rw [List.length_append]; exact ho⟩
  | none =>
    left
    rcases ho.2 with ⟨rfl, h0⟩ | ⟨g, cap, cur, rfl, _, _, hle, _⟩
    · exact ⟨List.eq_nil_of_length_eq_zero (by rw [List.length_append]; exact h0), none, rfl⟩
    · cases cap with
      | zero => exact ⟨List.eq_nil_of_length_eq_zero (by rw [List.length_append]; omega), some ⟨g, 0, none⟩, by rw [show xs.length + ys.length = 0 by omega]⟩
      | succ c => simp [ownB] at hv'
theorem ownsRow_slice {w : World} {b0 : Nat} {e size n : Nat} {v : Value} {cs : List Value} (h : w.ownsRow b0 e size v n cs) : v.oneCell' = true := by
  rcases h.2 with ⟨rfl, _⟩ | ⟨_, _, _, rfl, _⟩ <;> rfl

section
variable {P : Program} {o : Oper}
/-- An element type's facts for what grows. -/
def growOk (P : Program) (e : TypeId) (n : Nat) : Bool := match P.info? e with
  | some i => i.size == n && decide (0 < n) && decide (i.bytes ≤ 32768) && (match i.zero with | some z => z.cells.size == n | none => false)
  | none => false
theorem growOk_spec {e : TypeId} {n : Nat} (h : growOk P e n = true) : ∃ i z, P.info? e = some i ∧ i.zero = some z ∧ i.size = n ∧ 0 < n ∧ i.bytes ≤ 32768 ∧ z.cells.size = n := by
  unfold growOk at h
  split at h
  · rename_i i hi
    simp only [Bool.and_eq_true, beq_iff_eq, decide_eq_true_eq] at h
    obtain ⟨⟨⟨h1, h2⟩, h3⟩, h4⟩ := h
    split at h4
    · rename_i z hz
      exact ⟨i, z, hi, hz, h1, h2, h3, by simpa using h4⟩
    · cases h4
  · cases h
theorem SlcA.open_ {α : Type} {kd : Kd α} {ys : List α} {w : World} {bad : Bad} {v : Value} (h : (SlcA kd ys).P w bad v) : (v = .slice none 0 0 ∧ ys = []) ∨ ∃ a c news, v = .slice (some a) ys.length c ∧ news.length = ys.length * kd.n ∧ All2 w bad (kd.cs ys) news ∧
    (∀ j u, news[j]? = some u → w.cell? (a.add j) = some u) := by
  obtain ⟨base, cap, hv, hcap, hnil, hx⟩ := h
  rcases hx with rfl | ⟨b, off, cs, rfl, hb, nb, hk, hc⟩
  · cases base with
    | none => left; simp [hv, hnil rfl]
    | some a => exact .inr ⟨a, cap, [], hv, by simp, trivial, fun j u h => by simp at h⟩
  · refine .inr ⟨_, cap, cs, hv, by rw [hk.length, kd.cs_length], hk, fun j u h => ?_⟩
    rw [addr_add, hc j (List.getElem?_eq_some_iff.1 h).1, h]
def RApp {α : Type} (e : TypeId) (kd : Kd α) (zs : List α) (O' : List Ent) (A : Asn) : Prop := ∃ v', O' = [SlE e v' kd zs] ∧ A = HdA v'
theorem append_core {α : Type} {kd : Kd α} {t ty e : TypeId} {xs ys : List α} {v x : Value} {w : World} {bad : Bad} (he : elOf P t = some (e, kd.n)) (hg : growOk P e kd.n = true) (hlim : xs.length + ys.length ≤ lim)
    (hb : ∀ b, ownB v = some b → bad b) (hs : (SlE e v kd xs).P w bad) (hx : (SlcA kd ys).P w bad x) :
    ∃ v' w', (Builtin.append_ #[t, t] ty #[v, x]).run P w = .ok v' w' ∧ Turn w (SlE e v kd xs).bs w' (SlE e v' kd (xs ++ ys)).bs ∧ (SlE e v' kd (xs ++ ys)).P w' (badTo bad (SlE e v kd xs).bs (SlE e v' kd (xs ++ ys)).bs) ∧ v'.oneCell' = true := by
  obtain ⟨hu, _⟩ := elOf_spec he
  obtain ⟨inf, z, hi, hz, hsz, hpos, hby, hzs⟩ := growOk_spec hg
  have hbytes : (xs.length + ys.length) * inf.bytes ≤ 140737488355328 := by
    have := Nat.mul_le_mul hlim hby
    simp only [lim] at this
    omega
  rcases hs with ⟨rfl, a0, rfl⟩ | ⟨g, hgv, cs, hk, ho⟩
  · -- no room at all
    simp only [List.length_nil, Nat.zero_add, List.nil_append] at hlim hbytes ⊢
    by_cases hy : ys = []
    · subst hy
      refine ⟨.slice a0 0 0, w, ?_, ⟨rfl, rfl, rfl, Nat.le_refl _, fun _ _ _ => rfl, by simp [SlE, ownB], fun b hb => by simp [SlE, ownB] at hb⟩, .inl ⟨rfl, a0, rfl⟩, rfl⟩
      obtain ⟨base, cap, hv, _⟩ := hx
      subst hv
      cases a0 with
      | none => cases base <;> simp [Builtin.append_, run_underlying hu, sizeOf, typeInfo, hi, Builtin.lenOf, Builtin.firstCells, loadCells, loadCellsFrom]
      | some b0 => cases base <;> simp [Builtin.append_, run_underlying hu, sizeOf, typeInfo, hi, Builtin.lenOf, Builtin.firstCells, loadCells, loadCellsFrom, storeCells]
    · have hyl : 0 < ys.length := List.length_pos_iff.2 hy
      rcases SlcA.open_ hx with ⟨_, h⟩ | ⟨a, c, news, rfl, hl, hn, hc⟩
      · exact absurd h hy
      have fin : ∀ cells, cells.size = grownCap w ys.length 0 e * kd.n → cells.toList.take (ys.length * kd.n) = news →
          let w' := w.drew.alloc (.cells cells e)
          let v' : Value := .slice (some ⟨w.heap.size, 0, none⟩) ys.length (grownCap w ys.length 0 e)
          Turn w (SlE e (.slice a0 0 0) kd ([] : List α)).bs w' (SlE e v' kd ys).bs ∧ (SlE e v' kd ys).P w' (badTo bad (SlE e (.slice a0 0 0) kd ([] : List α)).bs (SlE e v' kd ys).bs) ∧ v'.oneCell' = true := by
        intro cells hcs htk
        have hge := grownCap_ge w ys.length 0 e
        have hcm := grownCap_le_maxLen w ys.length 0 e (by simp only [maxLen, lim] at *; omega)
        have hob := ownB_mk w.heap.size ys.length (grownCap w ys.length 0 e) (by omega)
        have t : Turn w (SlE e (.slice a0 0 0) kd ([] : List α)).bs (w.drew.alloc (.cells cells e)) (SlE e (.slice (some ⟨w.heap.size, 0, none⟩) ys.length (grownCap w ys.length 0 e)) kd ys).bs :=
          ⟨rfl, rfl, rfl, by simp, fun b hb _ => (by show (w.heap.push _)[b]? = _; rw [Array.getElem?_push, if_neg (Nat.ne_of_lt hb)]), by simp [SlE, hob], fun b hb => by simp [SlE, hob] at hb; exact .inr (by omega)⟩
        refine ⟨t, .inr ⟨w.heap.size, hob, news, hn.ext (t.ext fun b hb => by simp [SlE, ownB] at hb), hl, .inr ⟨w.heap.size, _, _, rfl, Nat.zero_le _, heap_alloc_new w.drew _, hge, hcm, hcs, htk⟩⟩, rfl⟩
      cases a0 with
      | none =>
        have hr := run_append_nil (P := P) w t ty e inf z hu hi hz a ys.length c news (by rw [hl, hsz]) hc hyl (by simp only [lim] at hlim; omega) (by omega)
        refine ⟨_, _, hr, fin _ ?_ ?_⟩
        · have hge := grownCap_ge w ys.length 0 e
          simp only [Array.size_append, List.size_toArray, size_zeroCells, hzs, hl, ← Nat.add_mul]
          congr 1
          omega
        · simp only [Array.toList_append]
          rw [← hl]; exact List.take_left
      | some b0 =>
        have hr := run_append_grow (P := P) w t ty e inf z hu hi hz b0 0 0 [] (by simp) (fun j u h => by simp at h) a ys.length c news (by rw [hl, hsz]) hc (by omega) (by simp only [lim] at hlim; omega) (growslice_fits (by omega) (by simpa using hbytes))
        simp only [Nat.zero_add] at hr
        refine ⟨_, _, hr, fin _ ?_ ?_⟩
        · have hge := grownCap_ge w ys.length 0 e
          simp only [Array.size_append, List.size_toArray, size_zeroCells, hzs, hl, List.length_nil, Nat.zero_add, ← Nat.add_mul]
          congr 1
          omega
        · simp only [Array.toList_append, List.nil_append]
          rw [← hl]; exact List.take_left
  · have hob := ownB_ownBlock hgv
    rcases SlcA.open_ hx with ⟨rfl, rfl⟩ | ⟨a, c, news, rfl, hl, hn, hc⟩
    · have hr := run_append_owned_none (P := P) (ty := ty) (w := w) 0 t e inf kd.n hu hi v xs.length cs ho
      refine ⟨v, w, hr, ?_⟩
      have := ownsRow_append (ys := ([] : List α)) (news := []) (v' := v) (w' := w) (row := none) hb hk trivial (by simpa using ho) ⟨rfl, rfl, rfl, Nat.le_refl _, fun _ _ _ => rfl⟩ (fun b h => by cases h) (fun b h => .inl h)
      exact ⟨this.1, this.2, ownsRow_slice ho⟩
    · have h63 : xs.length + ys.length ≤ maxLen := by simp only [maxLen, lim] at *; omega
      obtain ⟨v', w', hr, ho', hgr, hnil⟩ := run_append_own (P := P) w 0 t ty e inf z kd.n inf.bytes hu hi hz hsz rfl hzs hpos v xs.length cs ho a ys.length c news hl hc (All2.one (kd.cs_one ys) hn) h63 hbytes (Nat.zero_le _)
      refine ⟨v', w', hr, ?_⟩
      have hnew : ∀ b, ownB v' = some b → ownB v = some b ∨ w.heap.size ≤ b := by
        intro b hb'
        have hb' := ownB_ownBlock hb'
        have key : ∀ v2 w2, (Builtin.append_ #[t, t] ty #[v, .slice (some a) ys.length c]).run P w = .ok v2 w2 → v' = v2 := fun v2 w2 h => by
          rw [hr] at h; injection h
        rcases ho.2 with ⟨rfl, hn0⟩ | ⟨g', cap, cur, rfl, _, hh, hnc, _, hcs, _⟩
        · simp [ownB] at hgv
        · by_cases hroom : xs.length + ys.length ≤ cap
          · have hfit : xs.length * inf.size + news.length ≤ cur.size := by rw [hl, hcs, hsz, ← Nat.add_mul]; exact Nat.mul_le_mul_right _ hroom
            have hr2 := run_append_room (P := P) w t ty e inf hu hi g' xs.length cap cur hh a ys.length c news (by rw [hl, hsz]) hc (All2.one (kd.cs_one ys) hn) hroom hfit
            have := key _ _ hr2
            rw [this] at hb'
            simp [Value.ownBlock] at hb' hob
            exact .inl (by rw [hgv, ← hob, hb'])
          · have holds : ∀ j u, cs[j]? = some u → w.cell? ((⟨g', 0, none⟩ : Addr).add j) = some u := ho.cells (g := g') rfl
            have hr2 := run_append_grow (P := P) w t ty e inf z hu hi hz ⟨g', 0, none⟩ xs.length cap cs (by rw [ho.1, hsz]) holds a ys.length c news (by rw [hl, hsz]) hc (by omega) (by simp only [lim] at hlim; omega) (growslice_fits (by omega) hbytes)
            have := key _ _ hr2
            rw [this] at hb'
            simp [Value.ownBlock] at hb'
            exact .inr (by omega)
      have := ownsRow_append hb hk hn ho' hgr (fun b h => .inl (by rw [hob] at h; simp at h; rw [hgv, h])) hnew
      exact ⟨this.1, this.2, ownsRow_slice ho'⟩
theorem exec_append {t : TypeId} {s x : Operand} {a : Act} {w : World} {v' : Value} {w' : World} (ho : o.op = .call { callee := .builtin .append, args := #[s, x], argTypes := #[t, t] })
    (h : (Builtin.append_ #[t, t] o.type #[a.eval s, a.eval x]).run P w = .ok v' w') : (execOp a.eval o).run P w = .ok (.value v') w' := by
  simp [execOp, ho, resolve, invoke, builtin, h]
theorem w_append {α : Type} {kd : Kd α} {t e : TypeId} {n : Nat} {s x : Operand} {xs ys : List α} {v : Value} (ho : o.op = .call { callee := .builtin .append, args := #[s, x], argTypes := #[t, t] }) (he : elOf P t = some (e, n)) (hn : kd.n = n) (hg : growOk P e n = true)
    (hlim : xs.length + ys.length ≤ lim) : WS P [SlE e v kd xs] [(s, HdA v), (x, SlcA kd ys)] o (RApp e kd (xs ++ ys)) := WS.turn fun a w bad _ hb hP nd => by
  subst hn
  have hs : a.eval s = v ∧ _ := nd.h0
  obtain ⟨v', w', hr, ht, hp, h1⟩ := append_core (P := P) (ty := o.type) he hg hlim (fun b h => hb b (by simp [SlE, h])) hP nd.tl.h0
  exact Runs.value (exec_append ho (by rw [hs.1]; exact hr)) ⟨SlE e v' kd (xs ++ ys), HdA v', ⟨v', rfl, rfl⟩, ht, hp, rfl, h1⟩
/-- A slice without any room. -/
def ZslA : Asn := ⟨fun _ _ v => ∃ a, v = .slice a 0 0, fun _ h => h, true, fun _ _ _ v ⟨_, h⟩ => by subst h; rfl⟩
theorem w_appendZ {α : Type} {kd : Kd α} {t e : TypeId} {n : Nat} {s x : Operand} {ys : List α} (ho : o.op = .call { callee := .builtin .append, args := #[s, x], argTypes := #[t, t] }) (he : elOf P t = some (e, n)) (hn : kd.n = n) (hg : growOk P e n = true)
    (hlim : ys.length ≤ lim) : WS P [] [(s, ZslA), (x, SlcA kd ys)] o (RApp e kd ys) := WS.new fun a w bad _ nd => by
  subst hn
  obtain ⟨a0, hs⟩ := nd.h0
  obtain ⟨v', w', hr, ht, hp, h1⟩ := append_core (P := P) (ty := o.type) (xs := []) (bad := bad) he hg (by simpa using hlim) (v := .slice a0 0 0) (fun b h => by simp [ownB] at h) (.inl ⟨rfl, a0, rfl⟩) nd.tl.h0
  exact Runs.value (exec_append ho (by rw [hs]; exact hr)) ⟨SlE e v' kd ys, HdA v', ⟨v', rfl, rfl⟩, by simpa [SlE, ownB] using ht, by simpa [SlE, ownB] using hp, rfl, h1⟩

/-! ### Literals -/
theorem fill_row {size : Nat} : ∀ (vs : List Value) (k : Nat) (pre post : List Value), pre.length = k * size → (∀ v ∈ vs, v.cells.size = size) → vs.length * size ≤ post.length →
    Instr.fill (fun i => some (i * size, size)) (pre ++ post).toArray ((List.range' k vs.length).zip vs) = some (pre ++ vs.flatMap (fun v => v.cells.toList) ++ post.drop (vs.length * size)).toArray
  | [], k, pre, post, _, _, _ => by simp [Instr.fill]
  | v :: vs, k, pre, post, hp, hv, hl => by
    have hsz := hv v (List.mem_cons_self ..)
    have hmul : (vs.length + 1) * size = vs.length * size + size := Nat.succ_mul _ _
    simp only [List.length_cons] at hl
    simp only [List.length_cons, List.range'_succ, List.zip_cons_cons, Instr.fill]
    rw [if_neg (by simp [hsz, hp]; omega)]
    have hfold : ∀ (l : List Value) (j : Nat) (pre' post' : List Value), pre'.length = k * size + j → l.length ≤ post'.length → (l.zipIdx j).foldl (fun cs (c, j) => cs.setIfInBounds (k * size + j) c) (pre' ++ post').toArray = (pre' ++ l ++ post'.drop l.length).toArray := by
      intro l
      induction l with
      | nil => intro j pre' post' _ _; simp
      | cons c l ih =>
        intro j pre' post' h1 h2
        cases post' with
        | nil => simp at h2
        | cons q post' =>
          simp only [List.zipIdx_cons, List.foldl_cons]
          have : (pre' ++ q :: post').toArray.setIfInBounds (k * size + j) c = ((pre' ++ [c]) ++ post').toArray := by
            rw [← h1]; simp
          rw [this, ih (j + 1) (pre' ++ [c]) post' (by simp [h1]; omega) (by simpa using h2)]
          simp
    have hf := hfold v.cells.toList 0 pre post (by simpa using hp) (by simp [hsz]; omega)
    have e1 : v.cells.zipIdx.foldl (fun cs x => cs.setIfInBounds (k * size + x.2) x.1) (pre ++ post).toArray = (pre ++ v.cells.toList ++ post.drop v.cells.toList.length).toArray := by
      rw [← hf, ← Array.foldl_toList]; simp
    rw [e1]
    have ih := fill_row (size := size) vs (k + 1) (pre ++ v.cells.toList) (post.drop v.cells.toList.length) (by simp [hp, hsz, Nat.succ_mul]) (fun u hu => hv u (List.mem_cons_of_mem _ hu)) (by simp [hsz]; omega)
    rw [ih]
    simp [List.drop_drop, hsz, hmul, Nat.add_comm]
/-- The parts of a literal, each the cells of one element. -/
def Parts {α : Type} (kd : Kd α) : List α → List Asn → Prop
  | [], [] => True
  | x :: xs, A :: as => CellsOf A (kd.c x) ∧ Parts kd xs as
  | _, _ => False
theorem Parts.nil {α : Type} {kd : Kd α} : Parts kd [] [] := trivial
theorem Parts.cons {α : Type} {kd : Kd α} {x : α} {xs A as} (h : CellsOf A (kd.c x)) (k : Parts kd xs as) : Parts kd (x :: xs) (A :: as) := ⟨h, k⟩
theorem Parts.cells {α : Type} {kd : Kd α} {w bad} : ∀ {xs : List α} {as : List Asn} {vs : List Value}, Parts kd xs as → All2 w bad as vs → All2 w bad (kd.cs xs) (vs.flatMap fun v => v.cells.toList) ∧ vs.length = xs.length ∧ ∀ v ∈ vs, v.cells.size = kd.n
  | [], [], [], _, _ => ⟨trivial, rfl, fun v h => by simp at h⟩
  | x :: xs, A :: as, v :: vs, ⟨h, k⟩, ⟨h', k'⟩ => by
    obtain ⟨i1, i2, i3⟩ := Parts.cells k k'
    have hc := h _ _ _ h'
    refine ⟨?_, by simp [i2], fun u hu => ?_⟩
    · simp only [Kd.cs, List.flatMap_cons] at i1 ⊢; exact hc.append i1
    · rcases List.mem_cons.1 hu with rfl | hu
      · rw [← Array.length_toList, hc.length, kd.len]
      · exact i3 u hu
  | [], _ :: _, _, h, _ => h.elim
  | _ :: _, [], _, h, _ => h.elim
  | [], [], _ :: _, _, h => h.elim
  | _ :: _, _ :: _, [], _, h => h.elim
theorem run_lit {t e : TypeId} {n len : Nat} {vs : List Value} {w : World} (he : elOf P t = some (e, n)) (hg : growOk P e n = true) (hl : vs.length = len) (hsz : len * n ≤ 16777216) (hv : ∀ v ∈ vs, v.cells.size = n) :
    (Instr.buildSlice t len ((List.range' 0 len).zip vs).toArray).run P w = .ok (.slice (some ⟨w.heap.size, 0, none⟩) len len) { w with heap := w.heap.push (.cells (vs.flatMap fun v => v.cells.toList).toArray e) } := by
  obtain ⟨hu, _⟩ := elOf_spec he
  obtain ⟨inf, z, hi, hz, hs, hpos, _, hzs⟩ := growOk_spec hg
  subst hl
  have hf := fill_row (size := n) vs 0 [] ((Array.range (vs.length * n)).map (fun i => z.cells[i % z.cells.size]!)).toList (by simp) hv (by simp)
  simp only [List.nil_append, Array.toArray_toList] at hf
  have hd : (((Array.range (vs.length * n)).map (fun i => z.cells[i % z.cells.size]!)).toList.drop (vs.length * n)) = [] := List.drop_eq_nil_of_le (by simp)
  rw [hd, List.append_nil] at hf
  by_cases h0 : vs.length * n = 0
  · have hvs : vs = [] := by
      rcases Nat.mul_eq_zero.1 h0 with h | h
      · exact List.eq_nil_of_length_eq_zero h
      · omega
    subst hvs
    simp [Instr.buildSlice, underlying, hu, sizeOf, typeInfo, hi, Instr.fill, newRow]
    congr 2
    apply Array.ext_getElem?
    simp
  · have hle : ¬ (2 ^ 24 < vs.length * n) := by omega
    simp [Instr.buildSlice, underlying, hu, sizeOf, typeInfo, hi, hs, zeroValue, hz, newRow, h0, hf]
    exact hsz
theorem lit_args {a : Act} {w : World} {bad : Bad} {xs : List Operand} {as : List Asn} (h : Opd a w bad (xs.zip as)) (hl : xs.length = as.length) : All2 w bad as (xs.map a.eval) := Opd.args h hl
theorem exec_lit {t : TypeId} {len : Nat} {ps : List (Nat × Operand)} {xs : List Operand} {a : Act} {w : World} {v : Value} {w' : World} (ho : o.op = .buildSlice t len ps.toArray) (hp : ps = (List.range' 0 len).zip xs)
    (h : (Instr.buildSlice t len ((List.range' 0 len).zip (xs.map a.eval)).toArray).run P w = .ok v w') : (execOp a.eval o).run P w = .ok (.value v) w' := by
  subst hp
  have e : ((List.range' 0 len).zip xs).map (fun x => (x.1, a.eval x.2)) = (List.range' 0 len).zip (xs.map a.eval) := by
    rw [List.zip_map_right]; rfl
  simp [execOp, ho, e, h]
/-- A literal that is never written. -/
theorem q_lit {α : Type} {kd : Kd α} {t e : TypeId} {n len : Nat} {ps : List (Nat × Operand)} {xs : List Operand} {as : List Asn} {ys : List α} (ho : o.op = .buildSlice t len ps.toArray) (hp : ps = (List.range' 0 len).zip xs) (he : elOf P t = some (e, n)) (hn : kd.n = n) (hg : growOk P e n = true)
    (hl : xs.length = as.length) (hlen : xs.length = len) (hsz : Nat.ble (len * n) 16777216 = true) (hk : Parts kd ys as) : QS P (xs.zip as) o (SlcA kd ys) := fun a w bad hlt nd => by
  subst hn
  obtain ⟨h1, h2, h3⟩ := Parts.cells hk (lit_args nd hl)
  have hr := run_lit (P := P) (w := w) he hg (vs := xs.map a.eval) (len := len) (by simpa using hlen) (by simpa using hsz) h3
  refine Runs.value (exec_lit ho hp hr) ⟨⟨_, len, ?_, by rw [← h2]; simp [hlen], (fun e => by cases e), .inr ⟨w.heap.size, 0, _, rfl, by simp, fun hb => absurd (hlt _ hb) (by omega), h1.ext ((Same.alloc w _).ext bad), CellsAt.block (e := e) (fr := (0, 0)) (by rw [push_new])⟩⟩, Same.alloc w _⟩
  rw [← h2]; simp [hlen]
theorem w_lit {α : Type} {kd : Kd α} {t e : TypeId} {n len : Nat} {ps : List (Nat × Operand)} {xs : List Operand} {as : List Asn} {ys : List α} (ho : o.op = .buildSlice t len ps.toArray) (hp : ps = (List.range' 0 len).zip xs) (he : elOf P t = some (e, n)) (hn : kd.n = n) (hg : growOk P e n = true)
    (hl : xs.length = as.length) (hlen : xs.length = len) (hsz : Nat.ble (len * n) 16777216 = true) (hk : Parts kd ys as) : WS P [] (xs.zip as) o (RApp e kd ys) := WS.new fun a w bad hlt nd => by
  subst hn
  obtain ⟨h1, h2, h3⟩ := Parts.cells hk (lit_args nd hl)
  have hr := run_lit (P := P) (w := w) he hg (vs := xs.map a.eval) (len := len) (by simpa using hlen) (by simpa using hsz) h3
  have hyl : ys.length = len := by rw [← h2]; simp [hlen]
  have hpos : 0 < kd.n := by obtain ⟨_, _, _, _, _, h, _⟩ := growOk_spec hg; exact h
  have hlm : len ≤ maxLen := by
    have h5 : len * kd.n ≤ 16777216 := by simpa using hsz
    have h6 : len ≤ len * kd.n := Nat.le_mul_of_pos_right _ hpos
    simp only [maxLen]; omega
  cases len with
  | zero =>
    have hy0 : ys = [] := List.eq_nil_of_length_eq_zero hyl
    subst hy0
    exact Runs.value (exec_lit ho hp hr) ⟨SlE e (.slice (some ⟨w.heap.size, 0, none⟩) 0 0) kd [], _, ⟨_, rfl, rfl⟩, ⟨rfl, rfl, rfl, by simp, fun b hb _ => (Same.alloc w _).keep b hb, by simp [SlE, ownB], fun b hb => by simp [SlE, ownB] at hb⟩, .inl ⟨rfl, _, rfl⟩, ⟨rfl, rfl⟩⟩
  | succ len =>
  refine Runs.value (exec_lit ho hp hr) ⟨SlE e (.slice (some ⟨w.heap.size, 0, none⟩) (len + 1) (len + 1)) kd ys, _, ⟨_, rfl, rfl⟩, Turn.alloc w _, .inr ⟨w.heap.size, rfl, _, h1.ext ((Turn.alloc w _).ext (by simp)), ?_⟩, ⟨rfl, rfl⟩⟩
  rw [hyl]
  have := World.ownsRow_lit (e := e) (size := kd.n) (base := 0) w ((xs.map a.eval).flatMap fun v => v.cells.toList).toArray (len + 1) (Nat.zero_le _) hlm (by
    have := h1.length; rw [kd.cs_length, hyl] at this; simpa using this)
  simpa using this
/-- make([]T, n) -/
theorem w_make {α : Type} {kd : Kd α} {t e : TypeId} {n : Nat} {x y : Operand} {m : Int} {k k' : IntKind} {z : α} {zs : List Value} (ho : o.op = .makeSlice t x y) (he : elOf P t = some (e, n)) (hn : kd.n = n) (hg : growOk P e n = true) (hz : zeroOf P e = some zs) (hk : zs.map EqA = kd.c z) (h0 : 0 ≤ m) (hlim : m ≤ lim) :
    WS P [] [(x, EqA (.int k m)), (y, EqA (.int k' m))] o (RApp e kd (List.replicate m.toNat z)) := WS.new fun a w bad hlt nd => by
  subst hn
  have hx : a.eval x = .int k m := nd.h0
  have hy : a.eval y = .int k' m := nd.tl.h0
  obtain ⟨hu, _⟩ := elOf_spec he
  obtain ⟨inf, zv, hi, hzv, hs, hpos, hby, hzs⟩ := growOk_spec hg
  have hzl : zv.cells.toList = zs := by
    unfold zeroOf at hz; simp [hi, hzv] at hz; exact hz
  have hmn : ((m.toNat : Nat) : Int) = m := Int.toNat_of_nonneg h0
  have hml : m.toNat ≤ lim := by have : (m.toNat : Int) ≤ lim := by omega
                                 exact_mod_cast this
  obtain ⟨w', hr, hown, hgr⟩ := run_make_full (P := P) (w := w) 0 t e inf zv kd.n hu hi hzv hs k k' m.toNat (by have := Nat.mul_le_mul hby hml; simp only [lim] at this; omega) (by simp only [maxLen, lim] at *; omega) (Nat.zero_le _)
  rw [hmn] at hr
  have hrep : (madeCells zv.cells (m.toNat * kd.n)).toList = (List.replicate m.toNat zs).flatten := by
    have hzsl : zs.length = kd.n := by rw [← hzl, Array.length_toList, hzs]
    apply List.ext_getElem?
    intro j
    by_cases hj : j < m.toNat * kd.n
    · have h1 : j % kd.n < kd.n := Nat.mod_lt _ hpos
      have h2 : (List.replicate m.toNat zs).flatten[j]? = zs[j % kd.n]? := by
        have : ∀ (q : Nat) (j : Nat), j < q * kd.n → (List.replicate q zs).flatten[j]? = zs[j % kd.n]? := by
          intro q
          induction q with
          | zero => intro j hj; simp at hj
          | succ q ih =>
            intro j hj
            rw [List.replicate_succ, List.flatten_cons]
            by_cases hjn : j < kd.n
            · rw [List.getElem?_append_left (by omega), Nat.mod_eq_of_lt hjn]
            · rw [List.getElem?_append_right (by omega), hzsl, ih (j - kd.n) (by rw [Nat.succ_mul] at hj; omega), ← Nat.mod_eq_sub_mod (by omega)]
        exact this m.toNat j hj
      rw [h2, ← hzl]
      have h3 : j % kd.n < zv.cells.size := by omega
      simp [madeCells, hj, hzs]
      rw [Array.getElem?_eq_getElem h3, getElem!_pos zv.cells (j % kd.n) h3]
    · have hl2 : ((List.replicate m.toNat zs).flatten).length = m.toNat * kd.n := by simp [hzsl]
      rw [List.getElem?_eq_none (by simp [madeCells]; omega), List.getElem?_eq_none (by omega)]
  have hcells : kd.cs (List.replicate m.toNat z) = ((List.replicate m.toNat zs).flatten).map EqA := by
    rw [Kd.cs, List.map_flatten, List.map_replicate, hk, List.flatMap_def, List.map_replicate]
  by_cases hm0 : m.toNat = 0
  · rw [hm0] at hr ⊢
    refine Runs.value (v := .slice (some ⟨w.heap.size, 0, none⟩) 0 0) (w' := w') (by simp [execOp, ho, hx, hy, hr]) ⟨SlE e (.slice (some ⟨w.heap.size, 0, none⟩) 0 0) kd (List.replicate 0 z), _, ⟨_, rfl, rfl⟩, ?_, .inl ⟨rfl, _, rfl⟩, ⟨rfl, rfl⟩⟩
    exact ⟨hgr.os, hgr.tape, hgr.output, hgr.size, fun b hb _ => hgr.block b hb (by simp), by simp [SlE, ownB], fun b hb => by simp [SlE, ownB] at hb⟩
  have hob := ownB_mk w.heap.size m.toNat m.toNat hm0
  refine Runs.value (v := .slice (some ⟨w.heap.size, 0, none⟩) m.toNat m.toNat) (w' := w') (by simp [execOp, ho, hx, hy, hr]) ⟨SlE e (.slice (some ⟨w.heap.size, 0, none⟩) m.toNat m.toNat) kd (List.replicate m.toNat z), _, ⟨_, rfl, rfl⟩, ?_, ?_, ⟨rfl, rfl⟩⟩
  · exact ⟨hgr.os, hgr.tape, hgr.output, hgr.size, fun b hb _ => hgr.block b hb (by simp), by simp [SlE, hob], fun b hb => by simp [SlE, hob] at hb; exact .inr (by omega)⟩
  · refine .inr ⟨w.heap.size, hob, _, ?_, by rw [List.length_replicate]; exact hown⟩
    rw [hrep, hcells]
    exact All2.eqs _ _ _
end
end Go.Abs
