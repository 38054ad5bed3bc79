/- More steps: structs by value, results, comparisons of structs, slices against nil, function values. -/
import Derived.Test.YthmdmchmmgmblaaGreatA6
import Derived.Lib.SliceRun
namespace Go.Abs
open Go Go.RowKit

section
variable {P : Program} {o : Oper}
theorem set_run (off : Nat) : ∀ (l : List Value) (j : Nat) (pre post : List Value), pre.length = off + j → l.length ≤ post.length →
    (l.zipIdx j).foldl (fun cs (c, j) => cs.setIfInBounds (off + j) c) (pre ++ post).toArray = (pre ++ l ++ post.drop l.length).toArray
  | [], _, _, _, _, _ => by simp
  | c :: l, j, pre, [], _, h => by simp at h
  | c :: l, j, pre, q :: post, h1, h2 => by
    simp only [List.zipIdx_cons, List.foldl_cons]
    have : (pre ++ q :: post).toArray.setIfInBounds (off + j) c = ((pre ++ [c]) ++ post).toArray := by rw [← h1]; simp
    rw [this, set_run off l (j + 1) (pre ++ [c]) post (by simp [h1]; omega) (by simpa using h2)]
    simp
theorem set_splice (C : List Value) (off : Nat) (vs : Array Value) (h : off + vs.size ≤ C.length) :
    vs.zipIdx.foldl (fun cs (c, j) => cs.setIfInBounds (off + j) c) C.toArray = (C.take off ++ vs.toList ++ C.drop (off + vs.toList.length)).toArray := by
  have := set_run off vs.toList 0 (C.take off) (C.drop off) (by simp; omega) (by simp; omega)
  rw [List.take_append_drop] at this
  rw [← Array.foldl_toList, Array.toList_zipIdx, this, List.drop_drop]
def PartsOf : List Asn → List (List Asn) → Prop
  | [], [] => True
  | A :: as, l :: ls => CellsOf A l ∧ PartsOf as ls
  | _, _ => False
theorem PartsOf.nil : PartsOf [] [] := trivial
theorem PartsOf.cons {A l as ls} (h : CellsOf A l) (k : PartsOf as ls) : PartsOf (A :: as) (l :: ls) := ⟨h, k⟩
theorem fill_sound {place' : Nat → Option (Nat × Nat)} {pl : List (Nat × Nat)} (hpl : ∀ i p, pl[i]? = some p → place' i = some p) {w : World} {bad : Bad} :
    ∀ (is : List Nat) (as : List Asn) (ls : List (List Asn)) (vs : List Value) (l L : List Asn) (C : List Value), PartsOf as ls → All2 w bad as vs → is.length = as.length → All2 w bad l C → fillA pl l (is.zip ls) = some L →
      ∃ C', Instr.fill place' C.toArray (is.zip vs) = some (List.toArray C') ∧ All2 w bad L C'
  | [], [], [], [], l, L, C, _, _, _, hC, hf => by simp [fillA] at hf; subst hf; exact ⟨C, by simp [Instr.fill], hC⟩
  | i :: is, A :: as, l' :: ls, v :: vs, l, L, C, ⟨hp, hps⟩, ⟨hv, hvs⟩, hlen, hC, hf => by
    simp only [List.zip_cons_cons, fillA] at hf
    cases hi : pl[i]? with
    | none => rw [hi] at hf; cases hf
    | some p =>
      obtain ⟨off, n⟩ := p
      rw [hi] at hf
      dsimp only at hf
      cases hb : (Nat.beq l'.length n && Nat.ble (off + n) l.length) with
      | false => rw [hb] at hf; cases hf
      | true =>
        rw [hb] at hf
        simp only [cond_true] at hf
        simp only [Bool.and_eq_true, Nat.ble_eq] at hb
        have hb1 := Nat.eq_of_beq_eq_true hb.1
        have hcv := hp _ _ _ hv
        have hl1 := hcv.length
        have hl2 := hC.length
        have hsz : v.cells.size = n := by rw [← Array.length_toList, hl1, hb1]
        have hsp := set_splice C off v.cells (by omega)
        have hnew : All2 w bad (place l off l') (C.take off ++ v.cells.toList ++ C.drop (off + v.cells.toList.length)) := by
          have := ((hC.take off).append hcv).append (hC.drop (off + v.cells.toList.length))
          rw [hl1] at this ⊢
          exact this
        obtain ⟨C', h1, h2⟩ := fill_sound hpl is as ls vs _ L _ hps hvs (by simpa using hlen) hnew hf
        refine ⟨C', ?_, h2⟩
        simp only [List.zip_cons_cons, Instr.fill, hpl i _ hi]
        rw [if_neg (by simp [hsz]; omega), hsp]
        exact h1
  | [], _ :: _, _, _, _, _, _, _, _, h, _, _ => by simp at h
  | _ :: _, [], _, _, _, _, _, _, _, h, _, _ => by simp at h
  | [], [], _ :: _, _, _, _, _, h, _, _, _, _ => h.elim
  | [], [], [], _ :: _, _, _, _, _, h, _, _, _ => h.elim
  | _ :: _, _ :: _, [], _, _, _, _, h, _, _, _, _ => h.elim
  | _ :: _, _ :: _, _ :: _, [], _, _, _, _, h, _, _, _ => h.elim
theorem run_places {fs : List Field} {w : World} : ∀ {pl : List (Nat × Nat)}, fs.mapM (fun f => (P.info? f.type).map fun i => (f.offset, i.size)) = some pl →
    (fs.mapM (fun f => do pure (f.offset, ← sizeOf f.type) : Field → Sem (Nat × Nat))).run P w = .ok pl w := by
  induction fs with
  | nil => intro pl h; simp at h; subst h; simp
  | cons f fs ih =>
    intro pl h
    simp only [List.mapM_cons, Option.bind_eq_bind, Option.bind_eq_some_iff, Option.map_eq_some_iff, Option.pure_def, Option.some.injEq] at h
    obtain ⟨p, ⟨i, hi, rfl⟩, pl', h2, rfl⟩ := h
    have := ih h2
    simp [List.mapM_cons, sizeOf, typeInfo, hi]
    simp [sizeOf, typeInfo] at this
    simp [this]
/-- A struct or an array out of its parts; what is not told is zero. -/
theorem q_build {t : TypeId} {ps : List (Nat × Operand)} {is : List Nat} {xs : List Operand} {as : List Asn} {ls : List (List Asn)} {zs : List Value} {pl : List (Nat × Nat)} {L : List Asn} (ho : o.op = .build t ps.toArray) (hps : ps = is.zip xs) (hz : zeroOf P t = some zs) (hpl : placesOf P t = some pl)
    (hl : xs.length = as.length) (hi : is.length = as.length) (hk : PartsOf as ls) (hf : fillA pl (zs.map EqA) (is.zip ls) = some L) : QS P (xs.zip as) o (AggA L) := fun a w bad _ nd => by
  have ha := lit_args nd hl
  obtain ⟨z, hzr, hzc⟩ := run_zero (w := w) hz
  subst hps
  have e : (is.zip xs).map (fun x => (x.1, a.eval x.2)) = is.zip (xs.map a.eval) := by rw [List.zip_map_right]; rfl
  have hza : z.cells = zs.toArray := by rw [← hzc]
  unfold placesOf at hpl
  split at hpl
  · rename_i fs hu
    obtain ⟨C', h1, h2⟩ := fill_sound (place' := (pl[·]?)) (fun i p h => h) is as ls (xs.map a.eval) _ L zs hk ha hi (All2.eqs w bad zs) hf
    refine Runs.value (v := .agg C'.toArray) ?_ ⟨⟨C', rfl, h2⟩, Same.refl w⟩
    have hpr := run_places (P := P) (w := w) hpl
    have hpr2 : (fs.mapM (fun f => do pure (f.offset, ← sizeOf f.type) : Field → Sem (Nat × Nat))).run P w = .ok pl.toArray w := by
      rw [Array.mapM_eq_mapM_toList, ← bind_pure_comp, Sem.run_bind, hpr]
      rfl
    simp only [execOp, ho, List.map_toArray, e, Sem.run_bind, Instr.build, hzr, underlying]
    simp only [Sem.run_bind, run_program, hu, Sem.run_pure, Result.andThen, hpr2, hza, List.getElem?_toArray, h1]
  · rename_i n el hu
    simp only [Option.map_eq_some_iff] at hpl
    obtain ⟨i, hie, rfl⟩ := hpl
    obtain ⟨C', h1, h2⟩ := fill_sound (place' := fun j => some (j * i.size, i.size)) (pl := (List.range n).map fun j => (j * i.size, i.size)) (fun j p h => by
      simp only [List.getElem?_map, Option.map_eq_some_iff] at h
      obtain ⟨q, hq, rfl⟩ := h
      have := List.getElem?_eq_some_iff.1 hq
      obtain ⟨h3, h4⟩ := this
      simp at h4; subst h4; rfl) is as ls (xs.map a.eval) _ L zs hk ha hi (All2.eqs w bad zs) hf
    refine Runs.value (v := .agg C'.toArray) ?_ ⟨⟨C', rfl, h2⟩, Same.refl w⟩
    simp only [execOp, ho, List.map_toArray, e, Sem.run_bind, Instr.build, hzr, underlying]
    simp [sizeOf, typeInfo, hie, h1, hu, hza]
  · cases hpl

/-! ### A slice against nil -/
theorem q_nilEq {α : Type} {kd : Kd α} {xt yt : TypeId} {x : Operand} {xs : List α} {b : Bool} (ho : o.op = .binOp .eql xt x (.const (.slice none 0 0)) yt) (he : (elOf P xt).isSome = true) (hx : xs ≠ []) (hb : b = false) : QS P [(x, SlcA kd xs)] o (EqA (.bool b)) := fun a w bad _ nd => by
  obtain ⟨base, cap, hv, hcap, hnil, hxs⟩ := nd.h0
  obtain ⟨⟨e, n⟩, he⟩ := Option.isSome_iff_exists.1 he
  obtain ⟨hu, _⟩ := elOf_spec he
  subst hb
  rcases hxs with h | ⟨b', off, cs, rfl, _⟩
  · exact absurd h hx
  · refine Runs.value (v := .bool false) ?_ ⟨rfl, Same.refl w⟩
    have hc : a.eval (.const (.slice none 0 0)) = .slice none 0 0 := rfl
    simp [execOp, ho, hv, hc, eqGuard, Lib.run_eql_slice_nil w xt e _ _ _ 0 0 hu]
/-- It may be nil or not. -/
def BoolA (p : Bool → Prop) : Asn := ⟨fun _ _ v => ∃ b, p b ∧ v = .bool b, fun _ h => h, true, fun _ _ _ v ⟨_, _, h⟩ => by subst h; rfl⟩
theorem q_nilAny {α : Type} {kd : Kd α} {xt yt : TypeId} {x : Operand} {xs : List α} (ho : o.op = .binOp .eql xt x (.const (.slice none 0 0)) yt) (he : (elOf P xt).isSome = true) : QS P [(x, SlcA kd xs)] o (BoolA fun b => b = true → xs = []) := fun a w bad _ nd => by
  obtain ⟨base, cap, hv, hcap, hnil, hxs⟩ := nd.h0
  obtain ⟨⟨e, n⟩, he⟩ := Option.isSome_iff_exists.1 he
  obtain ⟨hu, _⟩ := elOf_spec he
  have hc : a.eval (.const (.slice none 0 0)) = .slice none 0 0 := rfl
  refine Runs.value (v := .bool base.isNone) ?_ ⟨⟨_, fun hb => ?_, rfl⟩, Same.refl w⟩
  · simp [execOp, ho, hv, hc, eqGuard, Lib.run_eql_slice_nil w xt e _ _ _ 0 0 hu]
  · cases base with
    | none => have := hnil rfl; exact List.eq_nil_of_length_eq_zero (by omega)
    | some b => simp at hb
end
/-- Both ways of a test of which little is known. -/
theorem W.condAny {c : Cx} {env : Env} {O : List Ent} {Q : Post} {t : Nat} {p : Bool → Prop} {x y : Code} (h : look env t = some (BoolA p)) (hx : p true → W c env O x Q) (hy : p false → W c env O y Q) : W c env O (.cond (.tmp t) x y) Q := fun a w s => by
  obtain ⟨b, hp, hb⟩ := s.tmp h
  exact wp_cond_split hb (fun e => hx (e ▸ hp) a w s) (fun e => hy (e ▸ hp) a w s)

/-! ### Results -/
/-- What a result variable holds. -/
inductive ResA (P : Program) (env : Env) (O : List Ent) : ResultVar → Asn → Prop
  | t {t : Nat} {A : Asn} (h : look env t = some A) : ResA P env O (.tmp t) A
  | c1 {p T n : Nat} {b i : Nat} {A : Asn} {l : List Asn} (h : look env p = some (EqA (.pointer (some ⟨b, 0, none⟩)))) (hs : shapeOf P T = some (false, n)) (hO : O[i]? = some (BoxE b (A :: l))) : ResA P env O (.cell p T) A
  | cs {p T n : Nat} {b i : Nat} {l : List Asn} (h : look env p = some (EqA (.pointer (some ⟨b, 0, none⟩)))) (hs : shapeOf P T = some (true, n)) (hO : O[i]? = some (BoxE b l)) (hn : Nat.beq l.length n = true) : ResA P env O (.cell p T) (AggA l)
  | p1 {p T n : Nat} {A : Asn} {l : List Asn} (h : look env p = some (PtrA (A :: l))) (hs : shapeOf P T = some (false, n)) : ResA P env O (.cell p T) A
  | ps {p T n : Nat} {l : List Asn} (h : look env p = some (PtrA l)) (hs : shapeOf P T = some (true, n)) (hn : Nat.beq l.length n = true) : ResA P env O (.cell p T) (AggA l)
def oneRes (tmps : Array Value) : ResultVar → Sem Value
  | .tmp t => pure (tmps.getD t undef)
  | .cell a t => do loadVar t (← asAddr (tmps.getD a undef))
theorem ResA.run {c : Cx} {env : Env} {O : List Ent} {rv : ResultVar} {A : Asn} (h : ResA c.P env O rv A) {a : Act} {w : World} (s : St c env O a w) : ∃ v, (oneRes a.tmps rv).run c.P w = .ok v w ∧ A.P w (badOf O c.fg) v := by
  cases h with
  | t h => exact ⟨_, rfl, s.env _ _ h⟩
  | c1 h hs hO =>
    have hp : a.tmps.getD _ undef = _ := s.env _ _ h
    obtain ⟨cs, el, hh, hk⟩ := s.sat.at_ hO
    cases cs with
    | nil => exact hk.elim
    | cons v cs =>
      have hc := CellsAt.block hh 0 (by simp)
      refine ⟨v, ?_, hk.1⟩
      have := run_loadVar_one (P := c.P) (v := v) hs (by simpa using hc)
      simp [oneRes, hp, asAddr, this]
  | cs h hs hO hn =>
    have hp : a.tmps.getD _ undef = _ := s.env _ _ h
    obtain ⟨cs, el, hh, hk⟩ := s.sat.at_ hO
    refine ⟨.agg cs.toArray, ?_, ⟨cs, rfl, hk⟩⟩
    have := run_loadVar_agg (w := w) hs (CellsAt.block hh) (by rw [hk.length]; simpa using hn)
    simp [oneRes, hp, asAddr, this]
  | p1 h hs =>
    obtain ⟨b, off, cs, hp, _, _, hk, hc⟩ := s.env _ _ h
    cases cs with
    | nil => exact hk.elim
    | cons v cs =>
      have h0 := hc 0 (by simp)
      refine ⟨v, ?_, hk.1⟩
      have := run_loadVar_one (P := c.P) (v := v) hs (by simpa using h0)
      simp [oneRes, hp, asAddr, this]
  | ps h hs hn =>
    obtain ⟨b, off, cs, hp, _, _, hk, hc⟩ := s.env _ _ h
    refine ⟨.agg cs.toArray, ?_, ⟨cs, rfl, hk⟩⟩
    have := run_loadVar_agg (w := w) hs hc (by rw [hk.length]; simpa using hn)
    simp [oneRes, hp, asAddr, this]
section
variable {c : Cx} {env : Env} {O : List Ent} {fn : Func} {R : List Ent → Asn → Prop}
theorem results_eq (fn : Func) (tmps : Array Value) : results fn tmps = (do let vs ← fn.results.mapM (oneRes tmps); pure (if h : vs.size = 1 then vs[0] else .tuple vs)) := by
  unfold results
  congr 1
theorem fin1 {P : Program} {rv : ResultVar} {A : Asn} (hP : P = c.P) (h : fn.results = #[rv]) (hA : ResA c.P env O rv A) (hR : R O A) (a : Act) (w : World) (s : St c env O a w) : a.defers = [] ∧ ∃ v, (results fn a.tmps).run P w = .ok v w ∧ PostOf c.w0 c.O0 c.fg R (.returned v) w := by
  subst hP
  obtain ⟨v, hr, hv⟩ := hA.run s
  refine s.post (A := A) rfl rfl (v := v) ?_ hv hR
  rw [results_eq, h]
  simp [hr]
theorem fin2 {P : Program} {r1 r2 : ResultVar} {A B : Asn} (hP : P = c.P) (h : fn.results = #[r1, r2]) (hA : ResA c.P env O r1 A) (hB : ResA c.P env O r2 B) (hR : R O (TupA [A, B])) (a : Act) (w : World) (s : St c env O a w) : a.defers = [] ∧ ∃ v, (results fn a.tmps).run P w = .ok v w ∧ PostOf c.w0 c.O0 c.fg R (.returned v) w := by
  subst hP
  obtain ⟨v, hr, hv⟩ := hA.run s
  obtain ⟨u, hr2, hu⟩ := hB.run s
  refine s.post (A := TupA [A, B]) rfl rfl (v := .tuple #[v, u]) ?_ ⟨[v, u], rfl, hv, hu, trivial⟩ hR
  rw [results_eq, h]
  simp [hr, hr2]
theorem fin3 {P : Program} {r1 r2 r3 : ResultVar} {A B D : Asn} (hP : P = c.P) (h : fn.results = #[r1, r2, r3]) (hA : ResA c.P env O r1 A) (hB : ResA c.P env O r2 B) (hD : ResA c.P env O r3 D) (hR : R O (TupA [A, B, D])) (a : Act) (w : World) (s : St c env O a w) : a.defers = [] ∧ ∃ v, (results fn a.tmps).run P w = .ok v w ∧ PostOf c.w0 c.O0 c.fg R (.returned v) w := by
  subst hP
  obtain ⟨v, hr, hv⟩ := hA.run s
  obtain ⟨u, hr2, hu⟩ := hB.run s
  obtain ⟨x, hr3, hx⟩ := hD.run s
  refine s.post (A := TupA [A, B, D]) rfl rfl (v := .tuple #[v, u, x]) ?_ ⟨[v, u, x], rfl, hv, hu, hx, trivial⟩ hR
  rw [results_eq, h]
  simp [hr, hr2, hr3]
theorem fin4 {P : Program} {r1 r2 r3 r4 : ResultVar} {A B D E : Asn} (hP : P = c.P) (h : fn.results = #[r1, r2, r3, r4]) (hA : ResA c.P env O r1 A) (hB : ResA c.P env O r2 B) (hD : ResA c.P env O r3 D) (hE : ResA c.P env O r4 E) (hR : R O (TupA [A, B, D, E])) (a : Act) (w : World) (s : St c env O a w) : a.defers = [] ∧ ∃ v, (results fn a.tmps).run P w = .ok v w ∧ PostOf c.w0 c.O0 c.fg R (.returned v) w := by
  subst hP
  obtain ⟨v, hr, hv⟩ := hA.run s
  obtain ⟨u, hr2, hu⟩ := hB.run s
  obtain ⟨x, hr3, hx⟩ := hD.run s
  obtain ⟨y, hr4, hy⟩ := hE.run s
  refine s.post (A := TupA [A, B, D, E]) rfl rfl (v := .tuple #[v, u, x, y]) ?_ ⟨[v, u, x, y], rfl, hv, hu, hx, hy, trivial⟩ hR
  rw [results_eq, h]
  simp [hr, hr2, hr3, hr4]
theorem QR.r1 {P : Program} {rv : ResultVar} {A : Asn} (hP : P = c.P) (h : fn.results = #[rv]) (hA : ResA c.P env O rv A) (hR : R O A) : QR c env O (bodyPost P fn (PostOf c.w0 c.O0 c.fg R)) := fun a w s => fin1 hP h hA hR a w s
theorem QR.r2 {P : Program} {r1 r2 : ResultVar} {A B : Asn} (hP : P = c.P) (h : fn.results = #[r1, r2]) (hA : ResA c.P env O r1 A) (hB : ResA c.P env O r2 B) (hR : R O (TupA [A, B])) : QR c env O (bodyPost P fn (PostOf c.w0 c.O0 c.fg R)) := fun a w s => fin2 hP h hA hB hR a w s
theorem QR.r3 {P : Program} {r1 r2 r3 : ResultVar} {A B D : Asn} (hP : P = c.P) (h : fn.results = #[r1, r2, r3]) (hA : ResA c.P env O r1 A) (hB : ResA c.P env O r2 B) (hD : ResA c.P env O r3 D) (hR : R O (TupA [A, B, D])) : QR c env O (bodyPost P fn (PostOf c.w0 c.O0 c.fg R)) := fun a w s => fin3 hP h hA hB hD hR a w s
theorem QR.r4 {P : Program} {r1 r2 r3 r4 : ResultVar} {A B D E : Asn} (hP : P = c.P) (h : fn.results = #[r1, r2, r3, r4]) (hA : ResA c.P env O r1 A) (hB : ResA c.P env O r2 B) (hD : ResA c.P env O r3 D) (hE : ResA c.P env O r4 E) (hR : R O (TupA [A, B, D, E])) : QR c env O (bodyPost P fn (PostOf c.w0 c.O0 c.fg R)) := fun a w s => fin4 hP h hA hB hD hE hR a w s
theorem QN.r0 {P : Program} (hP : P = c.P) (h : fn.results = #[]) (hR : R O (TupA [])) : QN c env O (bodyPost P fn (PostOf c.w0 c.O0 c.fg R)) := fun a w s => by
  subst hP
  exact s.post (A := TupA []) rfl rfl (results_none h _ c.P w) ⟨[], rfl, trivial⟩ hR
end
end Go.Abs
