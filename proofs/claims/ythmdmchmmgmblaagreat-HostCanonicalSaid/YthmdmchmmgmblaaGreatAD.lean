/- From what is handed over to Lean values: each slice, string, number and struct that an argument reaches. -/
import Derived.Test.YthmdmchmmgmblaaGreatAC
import Derived.OpenShut
import Derived.SizedLaws
namespace Go.Abs
open Go Go.RowKit

def noB : Bad := fun _ => False

/-- What is handed over at a type is a Lean value, laid out so; and this is known of it. -/
structure Opn {α : Type} (P : Program) (t : TypeId) (kd : Kd α) (G : α → Prop) : Prop where
  cells : P.cellsOf t = kd.n
  op : ∀ {H : Type} {enc : TypeId × Value → H} {w : World} {fuel : Nat} {cs : List Value} {x : DataW H × List MemPlace},
    DataW.trod enc P w 0 (fun _ => true) true fuel t cs = some x → (∀ n ∈ x.1.weights P t, n ≤ reachBytes) → ∃ v : α, All2 w noB (kd.c v) cs ∧ G v

section
variable {P : Program} {t : TypeId}
theorem op_int {k : IntKind} {kd : Kd Int} (hc : P.cellsOf t = kd.n) (hu : P.underlying t = some (.int k)) (hk : ∀ x, kd.c x = [EqA (.int k x)]) : Opn P t kd (fun x => (Lit.int k x).wf = true) :=
  ⟨hc, fun h _ => by
    obtain ⟨n, rfl, _, hw⟩ := DataW.trod_int hu h
    exact ⟨n, by rw [hk]; exact ⟨rfl, trivial⟩, hw⟩⟩
theorem op_bool (hc : P.cellsOf t = 1) (hu : P.underlying t = some .bool) : Opn P t kBool (fun _ => True) :=
  ⟨hc, fun h _ => by
    obtain ⟨b, rfl, _⟩ := DataW.trod_bool hu h
    exact ⟨b, ⟨rfl, trivial⟩, trivial⟩⟩
theorem op_str (hc : P.cellsOf t = 1) (hu : P.underlying t = some .string) : Opn P t kStr (fun s => s.length ≤ reachBytes) :=
  ⟨hc, fun h hw => by
    obtain ⟨s, rfl, hx, _⟩ := DataW.trod_string hu h
    refine ⟨s.data.toList, ⟨by show _ = _; cases s; simp, trivial⟩, ?_⟩
    rw [hx] at hw
    exact hw _ (by simp [DataW.weights])⟩

theorem weightsAll_mem {H : Type} {e : TypeId} : ∀ {ds : List (DataW H)} {d : DataW H}, d ∈ ds → ∀ n ∈ d.weights P e, n ∈ DataW.weightsAll P e ds
  | d0 :: ds, d, hd, n, hn => by
    simp only [DataW.weightsAll, List.mem_append]
    rcases List.mem_cons.1 hd with rfl | hd
    · exact .inl hn
    · exact .inr (weightsAll_mem hd n hn)
  | [], _, hd, _, _ => by cases hd

theorem op_slice {α : Type} {e : TypeId} {kd : Kd α} {G : α → Prop} (o : Opn P e kd G) (hn : 0 < kd.n) (hb : 0 < P.bytesOf e) (hc : P.cellsOf t = 1) (hu : P.underlying t = some (.slice e)) :
    Opn P t (kSl kd) (fun xs => xs.length ≤ reachBytes ∧ ∀ x ∈ xs, G x) :=
  ⟨hc, fun {H enc w fuel cs x} h hw => by
    rcases DataW.trod_slice hu h with ⟨rfl, _⟩ | ⟨a, len, cap, elems, rest, n, _, rfl, rfl, _, hl, _, hlen, hel, _, _⟩
    · exact ⟨[], ⟨⟨none, 0, rfl, Nat.le_refl _, fun _ => rfl, .inl rfl⟩, trivial⟩, Nat.zero_le _, fun x hx => by cases hx⟩
    · have hwl : len ≤ reachBytes := by
        have := hw ((elems.length + rest.length) * P.bytesOf e) (by simp [DataW.weights, hu])
        have h2 : elems.length * 1 ≤ (elems.length + rest.length) * P.bytesOf e := Nat.mul_le_mul (by omega) hb
        omega
      have hwe : ∀ d ∈ elems.map (·.1), ∀ n ∈ d.weights P e, n ≤ reachBytes := fun d hd n hn => hw n (by
        simp only [DataW.weights, hu, List.mem_cons, List.mem_append]
        exact .inr (.inl (weightsAll_mem hd n hn)))
      have key : ∀ m, m ≤ len → ∃ xs : List α, xs.length = m ∧ (∀ x ∈ xs, G x) ∧ ∃ cs, All2 w noB (kd.cs xs) cs ∧ ∀ i, i < cs.length → w.cell? (a.add i) = cs[i]? := by
        intro m
        induction m with
        | zero => intro _; exact ⟨[], rfl, (fun x hx => absurd hx (by simp)), [], trivial, (fun i hi => absurd hi (by simp))⟩
        | succ m ih =>
          intro hm
          obtain ⟨xs, hx1, hx2, cs, hx3, hx4⟩ := ih (by omega)
          have hi : m < elems.length := by omega
          have h1 := hel m (by omega)
          rw [List.getElem?_eq_getElem hi, Option.bind_eq_some_iff] at h1
          obtain ⟨c, hc1, hc2⟩ := h1
          obtain ⟨v, hv1, hv2⟩ := o.op hc2 (hwe _ (List.mem_map.2 ⟨_, List.getElem_mem hi, rfl⟩))
          obtain ⟨_, hc3, hc4⟩ := World.cells?_some hc1
          have hl1 := hx3.length
          rw [kd.cs_length, hx1] at hl1
          refine ⟨xs ++ [v], by simp [hx1], fun x hx => ?_, cs ++ c, ?_, fun i hi => ?_⟩
          · rcases List.mem_append.1 hx with hx | hx
            · exact hx2 x hx
            · rw [List.mem_singleton.1 hx]; exact hv2
          · rw [kd.cs_append]
            exact hx3.append (by simpa [Kd.cs] using hv1)
          · rcases Nat.lt_or_ge i cs.length with hlt | hge
            · rw [List.getElem?_append_left hlt]; exact hx4 i hlt
            · rw [List.getElem?_append_right hge]
              have hlt : i - cs.length < P.cellsOf e := by rw [← hc3]; rw [List.length_append] at hi; omega
              rw [← hc4 _ hlt]
              have hadd : a.add i = (a.add (m * P.cellsOf e)).add (i - cs.length) := by
                rw [o.cells, ← hl1]
                unfold Addr.add
                by_cases h0 : cs.length = 0
                · simp [h0]
                · have hi0 : i ≠ 0 := by omega
                  by_cases h1 : i - cs.length = 0
                  · have : i = cs.length := by omega
                    subst this
                    simp [h0]
                  · simp only [if_neg h0, if_neg hi0, if_neg h1]
                    congr 1
                    show a.off + i = a.off + cs.length + (i - cs.length)
                    omega
              rw [hadd]
      obtain ⟨xs, hx1, hx2, cs, hx3, hx4⟩ := key len (Nat.le_refl _)
      refine ⟨xs, ⟨⟨some a, cap, by rw [hx1], by omega, (fun h => absurd h (by simp)), ?_⟩, trivial⟩, by omega, hx2⟩
      cases xs with
      | nil => exact .inl rfl
      | cons y ys =>
        right
        have hl1 := hx3.length
        rw [kd.cs_length] at hl1
        have hpos : 0 < cs.length := by
          rw [hl1]; exact Nat.mul_pos (by simp) hn
        have h0 := hx4 0 hpos
        rw [List.getElem?_eq_getElem hpos] at h0
        have hsp : a.spot = none ∧ a.block < w.heap.size := by
          have h0' : w.cell? a = some cs[0] := by simpa [Addr.add] using h0
          unfold World.cell? at h0'
          split at h0'
          · rename_i c e' f hh
            refine ⟨?_, (Array.getElem?_eq_some_iff.1 hh).1⟩
            cases hs : a.spot with
            | none => rfl
            | some q => rw [hs] at h0'; simp at h0'
          · cases h0'
        obtain ⟨b, o', sp⟩ := a
        obtain ⟨rfl, hlt⟩ := hsp
        refine ⟨b, o', cs, rfl, hlt, fun h => h, hx3, fun i hi => ?_⟩
        rw [← hx4 i hi]
        unfold Addr.add
        by_cases hi0 : i = 0
        · subst hi0; rfl
        · rw [if_neg hi0]⟩

/-- The fields of a struct, one after the other. -/
structure OpnF (P : Program) (fs : List Field) (off m : Nat) {α : Type} (c : α → List Asn) (G : α → Prop) : Prop where
  op : ∀ {H : Type} {enc : TypeId × Value → H} {w : World} {fuel : Nat} {cs : List Value} (xs : List (DataW H × List MemPlace)), xs.length = fs.length →
    (∀ (i : Nat) (f : Field), fs[i]? = some f → DataW.trod enc P w 0 (fun _ => true) true fuel f.type ((cs.drop f.offset).take (P.cellsOf f.type)) = xs[i]?) →
    (∀ n ∈ DataW.weightsEach P (fs.map (·.type)) (xs.map (·.1)), n ≤ reachBytes) → ∃ v : α, All2 w noB (c v) ((cs.drop off).take m) ∧ G v
theorem OpnF.nil {off : Nat} : OpnF P [] off 0 (α := Unit) (fun _ => []) (fun _ => True) := ⟨fun _ _ _ _ => ⟨(), by simp [All2], trivial⟩⟩
theorem OpnF.cons {f : Field} {fs : List Field} {off m : Nat} {α β : Type} {kd : Kd α} {G : α → Prop} {c : β → List Asn} {G' : β → Prop} (o : Opn P f.type kd G) (ho : f.offset = off) (r : OpnF P fs (off + kd.n) m c G') :
    OpnF P (f :: fs) off (kd.n + m) (fun v : α × β => kd.c v.1 ++ c v.2) (fun v => G v.1 ∧ G' v.2) :=
  ⟨fun {H enc w fuel cs} xs hl h hw => by
    cases xs with
    | nil => simp at hl
    | cons x xs =>
      have h0 := h 0 f rfl
      rw [List.getElem?_cons_zero, o.cells, ho] at h0
      simp only [List.map_cons, DataW.weightsEach, List.mem_append] at hw
      obtain ⟨v, hv1, hv2⟩ := o.op h0 (fun n hn => hw n (.inl hn))
      obtain ⟨u, hu1, hu2⟩ := r.op (cs := cs) xs (by simpa using hl) (fun i g hg => by simpa using h (i + 1) g (by simpa using hg)) (fun n hn => hw n (.inr hn))
      refine ⟨(v, u), ?_, hv2, hu2⟩
      have : (cs.drop off).take (kd.n + m) = (cs.drop off).take kd.n ++ (cs.drop (off + kd.n)).take m := by
        rw [List.take_add, List.drop_drop]
      rw [this]
      exact hv1.append hu1⟩
theorem op_struct {fs : List Field} {α γ : Type} {kd : Kd γ} {m : Nat} {c : α → List Asn} {G : α → Prop} {G' : γ → Prop} (hu : P.underlying t = some (.struct fs.toArray)) (hc : P.cellsOf t = kd.n) (r : OpnF P fs 0 m c G) (hm : m = kd.n) (mk : α → γ)
    (hk : ∀ v, kd.c (mk v) = c v) (hG : ∀ v, G v → G' (mk v)) : Opn P t kd G' :=
  ⟨hc, fun {H enc w fuel cs x} h hw => by
    obtain ⟨xs, n, _, rfl, hl, hxl, hf⟩ := DataW.trod_struct hu h
    obtain ⟨v, hv1, hv2⟩ := r.op (cs := cs) xs (by simpa using hxl) (fun i f hi => hf i f (by simpa using hi)) (fun n hn => hw n (by simpa [DataW.weights, hu] using hn))
    refine ⟨mk v, ?_, hG v hv2⟩
    rw [hk]
    have : (cs.drop 0).take m = cs := by rw [List.drop_zero]; exact List.take_of_length_le (by omega)
    rwa [this] at hv1⟩
theorem weightsEach_rep {H : Type} {e : TypeId} : ∀ {n : Nat} {ds : List (DataW H)}, ds.length = n → DataW.weightsEach P (List.replicate n e) ds = DataW.weightsAll P e ds
  | 0, [], _ => by simp [DataW.weightsEach, DataW.weightsAll]
  | n + 1, d :: ds, h => by
    rw [List.replicate_succ]
    simp only [DataW.weightsEach, DataW.weightsAll]
    rw [weightsEach_rep (by simpa using h)]
  | 0, _ :: _, h => by simp at h
  | _ + 1, [], h => by simp at h
/-- An array of a few elements, as a struct whose fields 'fs' are the elements. -/
theorem op_array {n : Nat} {e : TypeId} {fs : List Field} {α γ : Type} {kd : Kd γ} {m : Nat} {c : α → List Asn} {G : α → Prop} {G' : γ → Prop} (hu : P.underlying t = some (.array n e)) (hc : P.cellsOf t = kd.n) (r : OpnF P fs 0 m c G) (hm : m = kd.n)
    (ht : fs.map (·.type) = List.replicate n e) (ho : ∀ (i : Nat) (f : Field), fs[i]? = some f → f.offset = i * P.cellsOf e) (mk : α → γ) (hk : ∀ v, kd.c (mk v) = c v) (hG : ∀ v, G v → G' (mk v)) : Opn P t kd G' :=
  ⟨hc, fun {H enc w fuel cs x} h hw => by
    obtain ⟨xs, n', _, rfl, hl, hxl, hf⟩ := DataW.trod_array hu h
    have hfl : fs.length = n := by have := congrArg List.length ht; simpa using this
    obtain ⟨v, hv1, hv2⟩ := r.op (cs := cs) xs (by omega) (fun i f hi => by
        have hi' : i < fs.length := (List.getElem?_eq_some_iff.1 hi).1
        have hty : f.type = e := by
          have := congrArg (fun l => l[i]?) ht
          simp only [List.getElem?_map, hi, Option.map_some, List.getElem?_replicate, if_pos (show i < n by omega), Option.some.injEq] at this
          exact this
        rw [hty, ho i f hi]
        exact hf i (by omega)) (fun n hn => hw n (by
        rw [ht, weightsEach_rep (by simpa using hxl)] at hn
        simpa [DataW.weights, hu] using hn))
    refine ⟨mk v, ?_, hG v hv2⟩
    rw [hk]
    have : (cs.drop 0).take m = cs := by rw [List.drop_zero]; exact List.take_of_length_le (by omega)
    rwa [this] at hv1⟩
/-- An argument that is a struct. -/
theorem Opn.agg {α : Type} {kd : Kd α} {G : α → Prop} (o : Opn P t kd G) {H : Type} {enc : TypeId × Value → H} {w : World} {cs : Array Value} {d : DataW H} {ps : List MemPlace} (h : DataW.Trod enc P w 0 (fun _ => true) true t (.agg cs) d ps)
    (hw : ∀ n ∈ d.weights P t, n ≤ reachBytes) : ∃ v : α, (AggA (kd.c v)).P w noB (.agg cs) ∧ G v := by
  obtain ⟨fuel, hf⟩ := h
  obtain ⟨v, hv, hG⟩ := o.op hf hw
  exact ⟨v, ⟨cs.toList, by simp, by simpa [Value.cells] using hv⟩, hG⟩
/-- An argument that is a slice. -/
theorem Opn.sl {α : Type} {kd : Kd α} {G : List α → Prop} (o : Opn P t (kSl kd) G) {H : Type} {enc : TypeId × Value → H} {w : World} {b : Option Addr} {n c : Nat} {d : DataW H} {ps : List MemPlace} (h : DataW.Trod enc P w 0 (fun _ => true) true t (.slice b n c) d ps)
    (hw : ∀ n ∈ d.weights P t, n ≤ reachBytes) : ∃ v : List α, (SlcA kd v).P w noB (.slice b n c) ∧ G v := by
  obtain ⟨fuel, hf⟩ := h
  obtain ⟨v, hv, hG⟩ := o.op hf hw
  exact ⟨v, hv.1, hG⟩
end
/-- Nothing owned: nothing that was there has turned. -/
theorem Frame.below {w w' : World} (h : Frame w [] w' []) : Below w.heap.size w w' := ⟨h.os, h.tape, h.output, h.size, fun b hb => (h.keep b hb (by simp [keys])).1⟩
theorem sat_none {w : World} : Sat w noB [] := ⟨by simp [keys], by simp [keys], fun b h => h.elim, by simp⟩
end Go.Abs
