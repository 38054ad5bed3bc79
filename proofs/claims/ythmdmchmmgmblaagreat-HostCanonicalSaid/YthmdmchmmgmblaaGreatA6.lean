/- More steps: parts of slices and strings, structs, results, function values. -/
import Derived.Test.YthmdmchmmgmblaaGreatA5
import Derived.Lib.Strings
namespace Go.Abs
open Go Go.RowKit

section
variable {P : Program} {o : Oper}
theorem elem_eq {t e : TypeId} (h : P.underlying t = some (.slice e)) : P.elem t = e := by simp [Program.elem, h]
theorem SlcA.part {α : Type} {kd : Kd α} {xs : List α} {w : World} {bad : Bad} {a : Option Addr} {cap l h : Nat} (hs : (SlcA kd xs).P w bad (.slice a xs.length cap)) (h1 : l ≤ h) (h2 : h ≤ xs.length) :
    (SlcA kd ((xs.take h).drop l)).P w bad (sliced a l h cap kd.n) := by
  obtain ⟨base, cap', hv, hcap, hnil, hx⟩ := hs
  simp only [Value.slice.injEq] at hv
  obtain ⟨rfl, _, rfl⟩ := hv
  have hlen : ((xs.take h).drop l).length = h - l := by simp; omega
  refine ⟨_, cap - l, by rw [sliced, hlen], by omega, fun hn => ?_, ?_⟩
  · split at hn
    · omega
    · cases a with
      | none => rw [hnil rfl]; omega
      | some b => simp at hn
  · rcases hx with rfl | ⟨b, off, cs, rfl, hb, nb, hk, hc⟩
    · left; simp
    · by_cases hcl : cap = l
      · left; apply List.eq_nil_of_length_eq_zero; rw [hlen]; omega
      · right
        refine ⟨b, off + l * kd.n, (cs.take (h * kd.n)).drop (l * kd.n), by rw [if_neg hcl]; simp [addr_add], hb, nb, ?_, (hc.take _).drop _⟩
        have e : kd.cs ((xs.take h).drop l) = ((kd.cs xs).take (h * kd.n)).drop (l * kd.n) := by
          have ht : ∀ (ys : List α) (m : Nat), kd.cs (ys.take m) = (kd.cs ys).take (m * kd.n) := by
            intro ys m
            by_cases hm : m ≤ ys.length
            · have := kd.cs_append (ys.take m) (ys.drop m)
              rw [List.take_append_drop] at this
              rw [this, show m * kd.n = (kd.cs (ys.take m)).length by rw [kd.cs_length]; simp [Nat.min_eq_left hm], List.take_left]
            · rw [List.take_of_length_le (by omega), List.take_of_length_le]
              rw [kd.cs_length]; exact Nat.mul_le_mul_right _ (by omega)
          have hd : ∀ (ys : List α) (m : Nat), kd.cs (ys.drop m) = (kd.cs ys).drop (m * kd.n) := by
            intro ys m
            by_cases hm : m ≤ ys.length
            · have := kd.cs_append (ys.take m) (ys.drop m)
              rw [List.take_append_drop] at this
              rw [this, show m * kd.n = (kd.cs (ys.take m)).length by rw [kd.cs_length]; simp [Nat.min_eq_left hm], List.drop_left]
            · rw [List.drop_eq_nil_of_le (by omega), List.drop_eq_nil_of_le]
              · rfl
              · rw [kd.cs_length]; exact Nat.mul_le_mul_right _ (by omega)
          rw [hd, ht]
        rw [e]; exact (hk.take _).drop _
theorem SlcA.shape {α : Type} {kd : Kd α} {xs : List α} {w : World} {bad : Bad} {v : Value} (h : (SlcA kd xs).P w bad v) : ∃ a cap, v = .slice a xs.length cap ∧ xs.length ≤ cap := by
  obtain ⟨base, cap, hv, hc, _⟩ := h; exact ⟨base, cap, hv, hc⟩
theorem q_subLH {α : Type} {kd : Kd α} {t e : TypeId} {n : Nat} {x lo hi : Operand} {xs : List α} {l h : Int} {k k' : IntKind} (ho : o.op = .slice t x (some lo) (some hi) none) (he : elOf P t = some (e, n)) (hn : kd.n = n) (h0 : 0 ≤ l) (h1 : l ≤ h) (h2 : h ≤ xs.length) :
    QS P [(x, SlcA kd xs), (lo, EqA (.int k l)), (hi, EqA (.int k' h))] o (SlcA kd ((xs.take h.toNat).drop l.toNat)) := fun a w bad _ nd => by
  subst hn
  obtain ⟨ad, cap, hv, hc⟩ := SlcA.shape nd.h0
  have hs := nd.h0
  rw [hv] at hs
  have hl : a.eval lo = .int k l := nd.tl.h0
  have hh : a.eval hi = .int k' h := nd.tl.tl.h0
  obtain ⟨hu, inf, hi', hsz⟩ := elOf_spec he
  have hue : P.underlying t = some (.slice (P.elem t)) := by rw [elem_eq hu]; exact hu
  refine Runs.value (v := sliced ad l.toNat h.toNat cap kd.n) ?_ ⟨SlcA.part hs (by omega) (by omega), Same.refl w⟩
  simp only [execOp, ho, hv, hl, hh, Option.map_some, Option.map_none, Sem.run_bind, run_sliceAt_slice w t _ _ _ _ hue, run_slice_lh w t ad xs.length cap hue k k' l h h0 h1 (by omega)]
  simp [elem_eq hu, sizeOf, typeInfo, hi', hsz]
theorem q_subH {α : Type} {kd : Kd α} {t e : TypeId} {n : Nat} {x hi : Operand} {xs : List α} {h : Int} {k' : IntKind} (ho : o.op = .slice t x none (some hi) none) (he : elOf P t = some (e, n)) (hn : kd.n = n) (h0 : 0 ≤ h) (h2 : h ≤ xs.length) :
    QS P [(x, SlcA kd xs), (hi, EqA (.int k' h))] o (SlcA kd (xs.take h.toNat)) := fun a w bad _ nd => by
  subst hn
  obtain ⟨ad, cap, hv, hc⟩ := SlcA.shape nd.h0
  have hs := nd.h0
  rw [hv] at hs
  have hh : a.eval hi = .int k' h := nd.tl.h0
  obtain ⟨hu, inf, hi', hsz⟩ := elOf_spec he
  have hue : P.underlying t = some (.slice (P.elem t)) := by rw [elem_eq hu]; exact hu
  refine Runs.value (v := sliced ad 0 h.toNat cap kd.n) ?_ ⟨by have := SlcA.part (l := 0) (h := h.toNat) hs (by omega) (by omega); simpa using this, Same.refl w⟩
  simp only [execOp, ho, hv, hh, Option.map_some, Option.map_none, Sem.run_bind, run_sliceAt_slice w t _ _ _ _ hue, run_slice_h w t ad xs.length cap hue k' h h0 (by omega)]
  simp [elem_eq hu, sizeOf, typeInfo, hi', hsz]
theorem q_subL {α : Type} {kd : Kd α} {t e : TypeId} {n : Nat} {x lo : Operand} {xs : List α} {l : Int} {k : IntKind} (ho : o.op = .slice t x (some lo) none none) (he : elOf P t = some (e, n)) (hn : kd.n = n) (h0 : 0 ≤ l) (h2 : l ≤ xs.length) :
    QS P [(x, SlcA kd xs), (lo, EqA (.int k l))] o (SlcA kd (xs.drop l.toNat)) := fun a w bad _ nd => by
  subst hn
  obtain ⟨ad, cap, hv, hc⟩ := SlcA.shape nd.h0
  have hs := nd.h0
  rw [hv] at hs
  have hl : a.eval lo = .int k l := nd.tl.h0
  obtain ⟨hu, inf, hi', hsz⟩ := elOf_spec he
  have hue : P.underlying t = some (.slice (P.elem t)) := by rw [elem_eq hu]; exact hu
  refine Runs.value (v := sliced ad l.toNat xs.length cap kd.n) ?_ ⟨by have := SlcA.part (l := l.toNat) (h := xs.length) hs (by omega) (by omega); simpa using this, Same.refl w⟩
  simp only [execOp, ho, hv, hl, Option.map_some, Option.map_none, Sem.run_bind, run_sliceAt_slice w t _ _ _ _ hue, run_slice_l w t ad xs.length cap hue k l h0 (by omega)]
  simp [elem_eq hu, sizeOf, typeInfo, hi', hsz]
/-- 's[:0:0]' -/
theorem q_sub0 {α : Type} {kd : Kd α} {t e : TypeId} {n : Nat} {x hi mx : Operand} {xs : List α} {k k' : IntKind} (ho : o.op = .slice t x none (some hi) (some mx)) (he : elOf P t = some (e, n)) : QS P [(x, SlcA kd xs), (hi, EqA (.int k 0)), (mx, EqA (.int k' 0))] o ZslA := fun a w bad _ nd => by
  obtain ⟨ad, cap, hv, hc⟩ := SlcA.shape nd.h0
  have hh : a.eval hi = .int k 0 := nd.tl.h0
  have hm : a.eval mx = .int k' 0 := nd.tl.tl.h0
  obtain ⟨hu, inf, hi', hsz⟩ := elOf_spec he
  refine Runs.value (v := .slice ad 0 0) ?_ ⟨⟨ad, rfl⟩, Same.refl w⟩
  simp [execOp, ho, hv, hh, hm, Instr.sliceAt, Instr.slice, underlying, hu, Instr.sliceBounds, Instr.sliceBound, asIntOf, sizeOf, typeInfo, hi']
/-- The beginning of a slice of the call's own, which takes its place. -/
theorem w_sub {α : Type} {kd : Kd α} {t e e' : TypeId} {n : Nat} {x hi : Operand} {xs : List α} {h : Int} {k' : IntKind} {v : Value} (ho : o.op = .slice t x none (some hi) none) (he : elOf P t = some (e, n)) (hn : kd.n = n) (h0 : 0 ≤ h) (h2 : h ≤ xs.length) :
    WS P [SlE e' v kd xs] [(x, HdA v), (hi, EqA (.int k' h))] o (RApp e' kd (xs.take h.toNat)) := WS.turn fun a w bad _ hb hP nd => by
  subst hn
  have hx : a.eval x = v ∧ _ := nd.h0
  have hh : a.eval hi = .int k' h := nd.tl.h0
  obtain ⟨hu, inf, hi', hsz⟩ := elOf_spec he
  have hue : P.underlying t = some (.slice (P.elem t)) := by rw [elem_eq hu]; exact hu
  have run : ∀ ad len cap, a.eval x = .slice ad len cap → h ≤ cap → (execOp a.eval o).run P w = .ok (.value (.slice ad h.toNat cap)) w := by
    intro ad len cap hv hc
    simp only [execOp, ho, hv, hh, Option.map_some, Option.map_none, Sem.run_bind, run_sliceAt_slice w t _ _ _ _ hue, run_slice_h w t ad len cap hue k' h h0 (by omega)]
    simp [elem_eq hu, sizeOf, typeInfo, hi', hsz, sliced]
    intro _; cases ad <;> rfl
  rcases hP with ⟨rfl, ad, rfl⟩ | ⟨g, hg, cs, hk, hl, ho'⟩
  · have h3 : h = 0 := by simp at h2; omega
    subst h3
    exact Runs.value (run ad 0 0 hx.1 (by simp)) ⟨SlE e' (.slice ad 0 0) kd [], _, ⟨_, by simp, rfl⟩, ⟨rfl, rfl, rfl, Nat.le_refl _, fun _ _ _ => rfl, by simp [SlE, ownB], fun b hb => by simp [SlE, ownB] at hb⟩, .inl ⟨rfl, ad, rfl⟩, rfl, rfl⟩
  · rcases ho' with ⟨rfl, _⟩ | ⟨g', cap, cur, rfl, _, hh', hle, hcm, hs, htk⟩
    · simp [ownB] at hg
    · have hcap : cap ≠ 0 := by intro e; subst e; simp [ownB] at hg
      have hob := ownB_mk g' h.toNat cap hcap
      have hob0 := ownB_mk g' xs.length cap hcap
      have ht : Turn w (SlE e' (.slice (some ⟨g', 0, none⟩) xs.length cap) kd xs).bs w (SlE e' (.slice (some ⟨g', 0, none⟩) h.toNat cap) kd (xs.take h.toNat)).bs :=
        ⟨rfl, rfl, rfl, Nat.le_refl _, fun _ _ _ => rfl, by simp [SlE, hob], fun b hb => by simp [SlE, hob] at hb; left; simp [SlE, hob0, hb]⟩
      refine Runs.value (run _ _ _ hx.1 (by omega)) ⟨SlE e' (.slice (some ⟨g', 0, none⟩) h.toNat cap) kd (xs.take h.toNat), _, ⟨_, rfl, rfl⟩, ht, .inr ⟨g', hob, cs.take (h.toNat * kd.n), ?_, ?_, .inr ⟨g', cap, cur, ?_, Nat.zero_le _, hh', ?_, hcm, hs, ?_⟩⟩, ⟨rfl, rfl⟩⟩
      · have hlen2 : (xs.take h.toNat).length = h.toNat := by simp; omega
        have e2 : kd.cs (xs.take h.toNat) = (kd.cs xs).take (h.toNat * kd.n) := by
          have := kd.cs_append (xs.take h.toNat) (xs.drop h.toNat)
          rw [List.take_append_drop] at this
          rw [this, show h.toNat * kd.n = (kd.cs (xs.take h.toNat)).length by rw [kd.cs_length, hlen2], List.take_left]
        rw [e2]
        exact ((hk.take _).ext (ht.ext hb))
      · have : h.toNat * kd.n ≤ xs.length * kd.n := Nat.mul_le_mul_right _ (by omega)
        simp [hl]
      · simp; omega
      · simp; omega
      · have : h.toNat * kd.n ≤ xs.length * kd.n := Nat.mul_le_mul_right _ (by omega)
        have h9 : (xs.take h.toNat).length = h.toNat := by simp; omega
        rw [h9, ← htk, List.take_take, Nat.min_eq_left this]

/-! ### Strings -/
theorem bsz (l : Str) : (⟨l.toArray⟩ : ByteArray).size = l.length := by simp [ByteArray.size]
def isStr (P : Program) (t : TypeId) : Bool := match P.underlying t with | some .string => true | _ => false
theorem isStr_spec {t : TypeId} (h : isStr P t = true) : P.underlying t = some .string := by
  unfold isStr at h; split at h <;> simp_all
theorem q_slen {x : Operand} {t : TypeId} {s : Str} (ho : o.op = .call { callee := .builtin .len, args := #[x], argTypes := #[t] }) (ht : isStr P t = true) : QS P [(x, EqA (strV s))] o (EqA (.int .i64 s.length)) := fun a w bad _ nd => by
  have hx : a.eval x = .string ⟨s.toArray⟩ := nd.h0
  refine Runs.value (v := .int .i64 s.length) ?_ ⟨rfl, Same.refl w⟩
  simp [execOp, ho, resolve, invoke, builtin, Builtin.len_, hx, underlying, isStr_spec ht, goInt, bsz]
/-- A string's byte. -/
def bt (s : Str) (i : Int) : Int := ((s.getD i.toNat 0).toNat : Int)
theorem q_sindex {t : TypeId} {x y : Operand} {s : Str} {i : Int} {k : IntKind} (ho : o.op = .index t x y) (ht : isStr P t = true) (h0 : 0 ≤ i) (h1 : i < s.length) : QS P [(x, EqA (strV s)), (y, EqA (.int k i))] o (EqA (.int .u8 (bt s i))) := fun a w bad _ nd => by
  have hx : a.eval x = .string ⟨s.toArray⟩ := nd.h0
  have hy : a.eval y = .int k i := nd.tl.h0
  have hlt : i.toNat < s.length := by omega
  refine Runs.value (v := .int .u8 (bt s i)) ?_ ⟨rfl, Same.refl w⟩
  have hg : (⟨s.toArray⟩ : ByteArray)[i.toNat]? = some s[i.toNat] := by
    rw [getElem?_pos (⟨s.toArray⟩ : ByteArray) i.toNat (by rw [bsz]; exact hlt)]; rfl
  simp [execOp, ho, hx, hy, Instr.index, asIntOf, underlying, isStr_spec ht, h0, hg, bt, hlt]
theorem extract_list (s : Str) (l h : Nat) : (⟨s.toArray⟩ : ByteArray).extract l h = ⟨((s.take h).drop l).toArray⟩ := by
  have h1 := Lib.extract_data (⟨s.toArray⟩ : ByteArray) l h
  apply ByteArray.ext
  apply Array.ext'
  rw [h1]
  simp [List.drop_take]
theorem q_ssubLH {t : TypeId} {x lo hi : Operand} {s : Str} {l h : Int} {k k' : IntKind} (ho : o.op = .slice t x (some lo) (some hi) none) (ht : isStr P t = true) (h0 : 0 ≤ l) (h1 : l ≤ h) (h2 : h ≤ s.length) :
    QS P [(x, EqA (strV s)), (lo, EqA (.int k l)), (hi, EqA (.int k' h))] o (EqA (strV ((s.take h.toNat).drop l.toNat))) := fun a w bad _ nd => by
  have hx : a.eval x = .string ⟨s.toArray⟩ := nd.h0
  have hl : a.eval lo = .int k l := nd.tl.h0
  have hh : a.eval hi = .int k' h := nd.tl.tl.h0
  have e1 : (h.toNat : Int) = h := Int.toNat_of_nonneg (by omega)
  refine Runs.value (v := strV ((s.take h.toNat).drop l.toNat)) ?_ ⟨rfl, Same.refl w⟩
  rw [strV, ← extract_list]
  simp [execOp, ho, hx, hl, hh, Instr.sliceAt, Instr.slice, underlying, isStr_spec ht, Instr.sliceBounds, Instr.sliceBound, asIntOf, bsz, h0, h1, h2, e1, (by omega : 0 ≤ h)]
theorem q_ssubH {t : TypeId} {x hi : Operand} {s : Str} {h : Int} {k' : IntKind} (ho : o.op = .slice t x none (some hi) none) (ht : isStr P t = true) (h0 : 0 ≤ h) (h2 : h ≤ s.length) :
    QS P [(x, EqA (strV s)), (hi, EqA (.int k' h))] o (EqA (strV (s.take h.toNat))) := fun a w bad _ nd => by
  have hx : a.eval x = .string ⟨s.toArray⟩ := nd.h0
  have hh : a.eval hi = .int k' h := nd.tl.h0
  refine Runs.value (v := strV (s.take h.toNat)) ?_ ⟨rfl, Same.refl w⟩
  have := extract_list s 0 h.toNat
  rw [List.drop_zero] at this
  rw [strV, ← this]
  simp [execOp, ho, hx, hh, Instr.sliceAt, Instr.slice, underlying, isStr_spec ht, Instr.sliceBounds, Instr.sliceBound, asIntOf, bsz, h0, h2]
theorem q_ssubL {t : TypeId} {x lo : Operand} {s : Str} {l : Int} {k : IntKind} (ho : o.op = .slice t x (some lo) none none) (ht : isStr P t = true) (h0 : 0 ≤ l) (h2 : l ≤ s.length) :
    QS P [(x, EqA (strV s)), (lo, EqA (.int k l))] o (EqA (strV (s.drop l.toNat))) := fun a w bad _ nd => by
  have hx : a.eval x = .string ⟨s.toArray⟩ := nd.h0
  have hl : a.eval lo = .int k l := nd.tl.h0
  refine Runs.value (v := strV (s.drop l.toNat)) ?_ ⟨rfl, Same.refl w⟩
  have := extract_list s l.toNat s.length
  rw [List.take_length] at this
  rw [strV, ← this]
  simp [execOp, ho, hx, hl, Instr.sliceAt, Instr.slice, underlying, isStr_spec ht, Instr.sliceBounds, Instr.sliceBound, asIntOf, bsz, h0, h2]

/-! ### Structs and arrays by value -/
/-- Where the parts of a struct or array lie, and their cells. -/
def placesOf (P : Program) (t : TypeId) : Option (List (Nat × Nat)) :=
  match P.underlying t with
  | some (.struct fs) => fs.toList.mapM fun f => (P.info? f.type).map fun i => (f.offset, i.size)
  | some (.array n e) => (P.info? e).map fun i => (List.range n).map fun j => (j * i.size, i.size)
  | _ => none
def fillA (pl : List (Nat × Nat)) : List Asn → List (Nat × List Asn) → Option (List Asn)
  | l, [] => some l
  | l, (i, l') :: r => match pl[i]? with
    | none => none
    | some (off, n) => bif Nat.beq l'.length n && Nat.ble (off + n) l.length then fillA pl (place l off l') r else none
end
end Go.Abs
