/- Subtypes: the table of types below, and what a match must be. -/
import Derived.Test.YtcgdfjpeboiioaaGreatS4
namespace Go.Proofs.YtcgdfjpeboiioaaGreat
open Go Go.Abs

theorem anyN_mem {l : List Int} {b : Int} : anyN (fun j => b == rd l (j : Int)) 0 l.length = decide (b ∈ l) := by
  rw [Bool.eq_iff_iff, anyN_iff, decide_eq_true_eq]
  constructor
  · rintro ⟨j, _, hj, h⟩
    have : b = rd l (j : Int) := by simpa using h
    rw [this]; exact rd_mem (by omega) (by omega)
  · intro h
    obtain ⟨i, hi, rfl⟩ := List.mem_iff_getElem.1 h
    exact ⟨i, Nat.zero_le _, hi, by simp [rd, List.getD, List.getElem?_eq_getElem hi]⟩
theorem rd_set {α : Type} [Inhabited α] {l : List α} {x y : Int} {v : α} (h0 : 0 ≤ x) (hx : x < (l.length : Int)) (hy : 0 ≤ y) : rd (l.set x.toNat v) y = if y = x then v else rd l y := by
  unfold rd
  by_cases h : y = x
  · subst h
    have : y.toNat < l.length := by omega
    simp [List.getD, List.getElem?_set, this]
  · have : ¬ x.toNat = y.toNat := by omega
    simp [List.getD, List.getElem?_set, this, h]
theorem mem_rd {l : List Int} {b : Int} : b ∈ l ↔ ∃ x : Int, 0 ≤ x ∧ x < (l.length : Int) ∧ b = rd l x := by
  constructor
  · intro h
    obtain ⟨i, hi, rfl⟩ := List.mem_iff_getElem.1 h
    exact ⟨i, by omega, by omega, by simp [rd, List.getD, List.getElem?_eq_getElem hi]⟩
  · rintro ⟨x, h0, h1, rfl⟩; exact rd_mem h0 h1
theorem swap_mem {l : List Int} {i j : Int} (hi0 : 0 ≤ i) (hi : i < (l.length : Int)) (hj0 : 0 ≤ j) (hj : j < (l.length : Int)) (b : Int) : b ∈ (l.set i.toNat (rd l j)).set j.toNat (rd l i) ↔ b ∈ l := by
  have hg : ∀ y : Int, 0 ≤ y → rd ((l.set i.toNat (rd l j)).set j.toNat (rd l i)) y = if y = j then rd l i else if y = i then rd l j else rd l y := by
    intro y hy
    rw [rd_set hj0 (by simp; omega) hy, rd_set hi0 hi hy]
  rw [mem_rd, mem_rd]
  simp only [List.length_set]
  constructor
  · rintro ⟨x, h0, h1, rfl⟩
    rw [hg x h0]
    by_cases e1 : x = j
    · rw [if_pos e1]; exact ⟨i, hi0, hi, rfl⟩
    · rw [if_neg e1]
      by_cases e2 : x = i
      · rw [if_pos e2]; exact ⟨j, hj0, hj, rfl⟩
      · rw [if_neg e2]; exact ⟨x, h0, h1, rfl⟩
  · rintro ⟨x, h0, h1, rfl⟩
    by_cases e1 : x = i
    · subst e1; exact ⟨j, hj0, hj, by rw [hg j hj0, if_pos rfl]⟩
    · by_cases e2 : x = j
      · subst e2
        exact ⟨i, hi0, hi, by rw [hg i hi0, if_neg (fun h => e1 h.symm), if_pos rfl]⟩
      · exact ⟨x, h0, h1, by rw [hg x h0, if_neg e2, if_neg e1]⟩
theorem Reverse_out : ∀ (k : Nat) (l : List Int) (i j : Int), 0 ≤ i → j < (l.length : Int) → l.length ≤ 1000000 → (j - i).toNat < k → i ≤ 1000000 → -10 ≤ j →
    Out (loop3 k slices_Reverse_int.b0 l i j) (fun r => r.length = l.length ∧ ∀ b, b ∈ r ↔ b ∈ l)
  | 0, l, i, j, _, _, _, h, _, _ => by omega
  | k + 1, l, i, j, h0, h1, h2, h3, h4, h5 => by
    unfold loop3
    cases hb : decide (i < j) with
    | false => exact ⟨l, by rw [slices_Reverse_int.b0, hb, cond_false], rfl, fun _ => Iff.rfl⟩
    | true =>
      simp at hb
      rw [slices_Reverse_int.b0, decide_eq_true hb, cond_true, gd (by omega), gd (by omega), gd (by omega), gd (by rw [List.length_set]; omega), gd (inR_of (by omega)), gd (inR_of (by omega))]
      refine (Reverse_out k _ (i + 1) (j - 1) (by omega) (by simp; omega) (by simpa using h2) (by omega) (by omega) (by omega)).mono fun r hr => ⟨by simpa using hr.1, fun b => ?_⟩
      rw [hr.2 b, swap_mem (by omega) (by omega) (by omega) (by omega)]

def chain (ns : List NodeType) : Nat → Int → List Int
  | 0, _ => []
  | d + 1, a => bif decide (a < 0) then [] else a :: chain ns d (rd ns a).fParent
theorem chain_neg {ns : List NodeType} {d : Nat} {a : Int} (h : a < 0) : chain ns d a = [] := by cases d <;> simp [chain, h]
theorem chain_pos {ns : List NodeType} {d : Nat} {a : Int} (h : 0 ≤ a) : chain ns (d + 1) a = a :: chain ns d (rd ns a).fParent := by
  have : decide (a < 0) = false := by simp; omega
  simp [chain, this]
def isB (ns : List NodeType) (a b : Int) : Bool := decide (b ∈ chain ns 100 a)
theorem line_out {K : Nat} (hK : 200 ≤ K) {t : Types} {n : Nat} (w : WfP t.fNodes n) : ∀ (d k : Nat) (a : Int) (acc : List Int), d < k → a < (d : Int) → a < (n : Int) → acc.length + d ≤ 150 →
    Out (loop2 k (types_line.b0 K t) a acc) (fun r => r.length ≤ 150 ∧ ∀ b, b ∈ r ↔ b ∈ acc ∨ b ∈ chain t.fNodes d a)
  | d, 0, _, _, h, _, _, _ => by omega
  | d, k + 1, a, acc, hk, hd, hn, hl => by
    unfold loop2
    rcases Int.lt_or_le a 0 with ha | ha
    · rw [types_line.b0, decide_eq_false (show ¬ a ≥ 0 by omega), cond_false, slices_Reverse_int, gd (inR_of (by omega))]
      refine Out.bind (Reverse_out K acc 0 _ (by omega) (by omega) (by omega) (by omega) (by omega) (by omega)) fun r hr => ⟨r, rfl, by omega, fun b => ?_⟩
      rw [hr.2, chain_neg ha]; simp
    · obtain ⟨d, rfl⟩ : ∃ e, d = e + 1 := ⟨d - 1, by omega⟩
      have hw := wf_at w ha hn
      have hn' := w.1
      rw [types_line.b0, decide_eq_true (show a ≥ 0 by omega), cond_true, gd (by simp [lim]; omega), gd (by omega)]
      refine (line_out hK w d k _ (acc ++ [a]) (by omega) (by omega) (by omega) (by simp; omega)).mono fun r hr => ⟨hr.1, fun b => ?_⟩
      rw [hr.2, chain_pos ha]; simp [or_assoc]
theorem types_is_eq {k : Nat} (hk : 200 ≤ k) {t : Types} {n : Nat} (w : WfP t.fNodes n) (hn : n ≤ 50) {a b : Int} (ha : a < (n : Int)) : types_is k t a b = some (isB t.fNodes a b) := by
  unfold types_is types_line
  obtain ⟨r, e, h1, h2⟩ := line_out (K := k) hk w 100 k a [] (by omega) (by omega) ha (by simp)
  rw [e, Option.bind_some, Contains_int _ _ (by omega) (by omega), Option.bind_some, anyN_mem]
  congr 1
  unfold isB
  rw [Bool.eq_iff_iff, decide_eq_true_eq, decide_eq_true_eq, h2]; simp
theorem Below1_eq {t : Types} {n : Nat} (w : WfP t.fNodes n) {b : Int} (hb : 0 ≤ b) : ∀ (d k : Nat) (a : Int), d < k → -1 ≤ a → a < (d : Int) → a < (n : Int) → ref04_Below1 k t a b = some (decide (b ∈ chain t.fNodes d a))
  | d, 0, _, h, _, _, _ => by omega
  | d, k + 1, a, hk, h1, hd, hn => by
    unfold ref04_Below1 ref04_Below1.main
    rcases Int.lt_or_le a 0 with ha | ha
    · have e1 : (a == b) = false := by simp; omega
      rw [jn, e1, cond_false, decide_eq_false (show ¬ a ≥ 0 by omega), cond_false, chain_neg ha]
      simp
    · obtain ⟨d, rfl⟩ : ∃ e, d = e + 1 := ⟨d - 1, by omega⟩
      have hw := wf_at w ha hn
      have hn' := w.1
      rw [jn, chain_pos ha]
      by_cases e : a = b
      · subst e; simp
      · have e1 : (a == b) = false := by simp [e]
        rw [e1, cond_false, decide_eq_true (show a ≥ 0 by omega), cond_true, gd (by omega), Below1_eq w hb d k _ (by omega) (by omega) (by omega) (by omega), Option.bind_some]
        congr 1
        rw [Bool.eq_iff_iff, decide_eq_true_eq, decide_eq_true_eq, List.mem_cons]
        exact ⟨.inr, fun h => h.resolve_left fun h => e h.symm⟩
theorem ref04_Below1_eq {k : Nat} (hk : 200 ≤ k) {t : Types} {n : Nat} (w : WfP t.fNodes n) (hn : n ≤ 50) {a b : Int} (h0 : 0 ≤ a) (ha : a < (n : Int)) (hb : 0 ≤ b) : ref04_Below1 k t a b = some (isB t.fNodes a b) :=
  Below1_eq w hb 100 k a (by omega) (by omega) (by omega) ha

theorem types_given_eq {k : Nat} (hk : 200 ≤ k) {t : Types} (ht : FewT t) (hv : validS t = 0) {a : Int} (h0 : 0 ≤ a) (ha : a < (t.fNodes.length : Int)) : types_given k t [a] = some 0 := by
  obtain ⟨r, e, hr⟩ := types_Valid_out hk ht
  unfold types_given
  rw [e, Option.bind_some, hr, hv]
  rw [ContainsFunc_int (k := k) [a] (fun x => types_given_1 k x t) (fun j => decide (rd [a] (j : Int) < 0) || decide (rd [a] (j : Int) ≥ (t.fNodes.length : Int))) (by simp; omega) (by simp) (fun j _ => by
    simp only [types_given_1, jn]; cases decide (rd [a] (j : Int) < 0) <;> rfl)]
  rw [anyN_none fun j _ hj => ?_]
  · rfl
  · have : j = 0 := by simp at hj; omega
    subst this
    have e : rd [a] ((0 : Nat) : Int) = a := rfl
    rw [e, decide_eq_false (by omega), decide_eq_false (by omega)]; rfl
theorem types_Below_out {k : Nat} (hk : 200 ≤ k) {t : Types} (ht : FewT t) (hv : validS t = 0) {a : Int} (h0 : 0 ≤ a) (ha : a < (t.fNodes.length : Int)) :
    Out (types_Below k t a) (fun r => r.1.length ≤ 20 ∧ ∀ b : Int, b ∈ r.1 ↔ 0 ≤ b ∧ b < (t.fNodes.length : Int) ∧ isB t.fNodes b a = true) := by
  have hn := ht.nodes
  have w := (valid_wf hv).1
  unfold types_Below
  rw [types_given_eq hk ht hv h0 ha, Option.bind_some]
  rw [show ((0 : Int) != 0) = false from rfl, cond_false]
  refine loop2_out (S := List Int) (P := fun _ _ (r : List Int × Int) => r.1.length ≤ 20 ∧ ∀ b : Int, b ∈ r.1 ↔ 0 ≤ b ∧ b < (t.fNodes.length : Int) ∧ isB t.fNodes b a = true)
    (I := fun s i => s.length ≤ i ∧ ∀ b : Int, b ∈ s ↔ 0 ≤ b ∧ b < (i : Int) ∧ isB t.fNodes b a = true) t.fNodes.length (fun s hs rec => ?_) (fun s i hi hs rec ih => ?_) k 0 [] (Nat.zero_le _) (by omega) ⟨Nat.le_refl _, fun b => ⟨fun h => by simp at h, fun h => by omega⟩⟩
  · rw [types_Below.b0, show decide ((t.fNodes.length : Int) < (t.fNodes.length : Int)) = false by simp, cond_false]
    exact ⟨_, rfl, by have := hs.1; show s.length ≤ 20; omega, hs.2⟩
  · rw [types_Below.b0, show decide ((i : Int) < (t.fNodes.length : Int)) = true by simp [hi], cond_true, types_is_eq hk w (by omega) (by omega), Option.bind_some]
    have hsl := hs.1
    cases hb : isB t.fNodes (i : Int) a with
    | true =>
      rw [cond_true, gd (by simp [lim]; omega), gd (inR_nat (n := i) (by omega))]
      refine ih _ ⟨by simp; omega, fun b => ?_⟩
      rw [List.mem_append, hs.2, List.mem_singleton]
      constructor
      · rintro (⟨h1, h2, h3⟩ | rfl)
        · exact ⟨h1, by omega, h3⟩
        · exact ⟨by omega, by omega, hb⟩
      · rintro ⟨h1, h2, h3⟩
        by_cases e : b = (i : Int)
        · exact .inr e
        · exact .inl ⟨h1, by omega, h3⟩
    | false =>
      rw [cond_false, gd (inR_nat (n := i) (by omega))]
      refine ih _ ⟨by omega, fun b => ?_⟩
      rw [hs.2]
      constructor
      · rintro ⟨h1, h2, h3⟩; exact ⟨h1, by omega, h3⟩
      · rintro ⟨h1, h2, h3⟩
        refine ⟨h1, ?_, h3⟩
        by_cases e : b = (i : Int)
        · subst e; rw [hb] at h3; cases h3
        · omega

theorem rd_append_lt {α : Type} [Inhabited α] {l m : List α} {x : Int} (h0 : 0 ≤ x) (h : x < (l.length : Int)) : rd (l ++ m) x = rd l x := by
  have : x.toNat < l.length := by omega
  simp [rd, List.getD, List.getElem?_append, this]
theorem rd_append_eq {α : Type} [Inhabited α] {l : List α} {v : α} : rd (l ++ [v]) (l.length : Int) = v := by simp [rd, List.getD]
structure Table (ns : List NodeType) (M : List (List Bool)) (i : Nat) : Prop where
  len : M.length = i
  row : ∀ a : Nat, a < i → (rd M (a : Int)).length = ns.length
  at' : ∀ a : Nat, a < i → ∀ b : Nat, b < ns.length → rd (rd M (a : Int)) (b : Int) = isB ns (b : Int) (a : Int)
theorem mem_take {l : List Int} {i : Nat} (hi : i < l.length) (b : Int) : b ∈ l.take (i + 1) ↔ b ∈ l.take i ∨ b = rd l (i : Int) := by
  have : rd l (i : Int) = l[i] := by simp [rd, List.getD, List.getElem?_eq_getElem hi]
  rw [this, List.take_succ_eq_append_getElem hi, List.mem_append, List.mem_singleton]
theorem search_below_out {k : Nat} (hk : 200 ≤ k) {t : Types} (ht : FewT t) (hv : validS t = 0) : Out (search_below k t) (fun M => Table t.fNodes M t.fNodes.length) := by
  have hn := ht.nodes
  refine loop2_out (S := List (List Bool)) (P := fun _ _ M => Table t.fNodes M t.fNodes.length) (I := fun M i => Table t.fNodes M i) t.fNodes.length (fun M hM rec => ?_) (fun M i hi hM rec ih => ?_) k 0 [] (Nat.zero_le _) (by omega)
    ⟨rfl, fun a ha => by omega, fun a ha => by omega⟩
  · rw [search_below.b0, show decide ((t.fNodes.length : Int) < (t.fNodes.length : Int)) = false by simp, cond_false]
    exact ⟨_, rfl, hM⟩
  · rw [search_below.b0, show decide ((i : Int) < (t.fNodes.length : Int)) = true by simp [hi], cond_true, gd (by simp [lim]; omega)]
    refine Out.bind (types_Below_out hk ht hv (a := (i : Int)) (by omega) (by omega)) fun r hr => ?_
    obtain ⟨hr1, hr2⟩ := hr
    refine loop2_out (S := List Bool) (P := fun _ _ M => Table t.fNodes M t.fNodes.length) (I := fun x j => x.length = t.fNodes.length ∧ ∀ b : Nat, b < t.fNodes.length → rd x (b : Int) = decide ((b : Int) ∈ r.1.take j)) r.1.length
      (fun x hx rec1 => ?_) (fun x j hj hx rec1 ih1 => ?_) k 0 (List.replicate (((t.fNodes.length : Nat) : Int)).toNat false) (Nat.zero_le _) (by omega) ⟨by simp, fun b hb => by simp [rd, List.getD, List.getElem?_replicate]; split <;> rfl⟩
    · rw [search_below.b1, show decide ((r.1.length : Int) < (r.1.length : Int)) = false by simp, cond_false, gd (by have := hM.len; simp [lim]; omega), gd (inR_nat (n := i) (by omega))]
      have hl := hM.len
      refine ih _ ⟨by simp [hl], fun a ha => ?_, fun a ha b hb => ?_⟩
      · rcases Nat.lt_succ_iff_lt_or_eq.1 ha with ha | rfl
        · rw [rd_append_lt (by omega) (by omega)]; exact hM.row a ha
        · rw [show (a : Int) = (M.length : Int) by omega, rd_append_eq]; exact hx.1
      · rcases Nat.lt_succ_iff_lt_or_eq.1 ha with ha | rfl
        · rw [rd_append_lt (by omega) (by omega)]; exact hM.at' a ha b hb
        · have e : rd (M ++ [x]) (a : Int) = x := by rw [show (a : Int) = (M.length : Int) by omega, rd_append_eq]
          rw [e, hx.2 b hb, List.take_length, Bool.eq_iff_iff, decide_eq_true_eq, hr2]
          exact ⟨fun h => h.2.2, fun h => ⟨by omega, by omega, h⟩⟩
    · have hm := (hr2 (rd r.1 (j : Int))).1 (rd_mem (by omega) (by omega))
      have hxl := hx.1
      rw [search_below.b1, show decide ((j : Int) < (r.1.length : Int)) = true by simp [hj], cond_true, gd (by omega), gd (by omega), gd (inR_nat (n := j) (by omega))]
      refine ih1 _ ⟨by simp [hxl], fun b hb => ?_⟩
      rw [rd_set (by omega) (by omega) (by omega), hx.2 b hb]
      by_cases e : (b : Int) = rd r.1 (j : Int)
      · rw [if_pos e]; symm; rw [decide_eq_true_eq, mem_take hj]; exact .inr e
      · rw [if_neg e, Bool.eq_iff_iff, decide_eq_true_eq, decide_eq_true_eq, mem_take hj]
        exact ⟨.inl, fun h => h.resolve_right e⟩

def nodeM (t : Types) (p g : Graph) (m : Morphism) (i : Nat) : Int :=
  bif decide (rd m.fNodes (i : Int) < 0) || decide (rd m.fNodes (i : Int) ≥ (g.fNodes.length : Int)) then 6 else bif isB t.fNodes (rd g.fNodes (rd m.fNodes (i : Int))) (rd p.fNodes (i : Int)) then 0 else 13
def edgeM (p g : Graph) (m : Morphism) (i : Nat) : Int :=
  bif decide (rd m.fEdges (i : Int) < 0) || decide (rd m.fEdges (i : Int) ≥ (g.fEdges.length : Int)) then 6
  else bif (rd p.fEdges (i : Int)).fType != (rd g.fEdges (rd m.fEdges (i : Int))).fType then 13
  else bif (rd m.fNodes (rd p.fEdges (i : Int)).fFrom != (rd g.fEdges (rd m.fEdges (i : Int))).fFrom) || (rd m.fNodes (rd p.fEdges (i : Int)).fTo != (rd g.fEdges (rd m.fEdges (i : Int))).fTo) then 11 else 0
def match2 (t : Types) (p g : Graph) (m : Morphism) (i : Nat) : Int := bif scan (nodeM t p g m) i m.fNodes.length != 0 then scan (nodeM t p g m) i m.fNodes.length else scan (edgeM p g m) 0 m.fEdges.length
def matchS (t : Types) (p g : Graph) (m : Morphism) : Int :=
  bif ((m.fNodes.length : Int) != (p.fNodes.length : Int)) || ((m.fEdges.length : Int) != (p.fEdges.length : Int)) then 20 else match2 t p g m 0
theorem match2_step {t : Types} {p g : Graph} {m : Morphism} {i : Nat} (hi : i < m.fNodes.length) : match2 t p g m i = bif nodeM t p g m i != 0 then nodeM t p g m i else match2 t p g m (i + 1) := by
  unfold match2; rw [scan_step hi]
  cases h : (nodeM t p g m i != 0) with
  | true => simp only [cond_true, h]
  | false => simp only [cond_false]
theorem match2_end {t : Types} {p g : Graph} {m : Morphism} : match2 t p g m m.fNodes.length = scan (edgeM p g m) 0 m.fEdges.length := by
  unfold match2; rw [scan_end]; rfl
theorem search_shape_eq {k : Nat} (hk : 200 ≤ k) {t : Types} (ht : FewT t) {p g : Graph} (f : Fine t p g) (m : Morphism) (h1 : m.fNodes.length ≤ 100) (h2 : m.fEdges.length ≤ 100) : search_shape k t p g m = some (matchS t p g m) := by
  obtain ⟨M, e, hM⟩ := search_below_out hk ht f.ok
  unfold search_shape matchS jn; dsimp only
  cases hl1 : ((m.fNodes.length : Int) != (p.fNodes.length : Int)) with
  | true => rfl
  | false =>
    cases hl2 : ((m.fEdges.length : Int) != (p.fEdges.length : Int)) with
    | true => rfl
    | false =>
      have l1 : (m.fNodes.length : Int) = (p.fNodes.length : Int) := by simpa using hl1
      have l2 : (m.fEdges.length : Int) = (p.fEdges.length : Int) := by simpa using hl2
      rw [cond_false, cond_false, e, Option.bind_some, Bool.or_false, cond_false]
      refine loop1_eq (fun i => match2 t p g m i) m.fNodes.length (fun rec => ?_) (fun i hi rec ih => ?_) (Nat.zero_le _) (by omega)
      · rw [search_shape.b0, show decide ((m.fNodes.length : Int) < (m.fNodes.length : Int)) = false by simp, cond_false, match2_end]
        refine loop1_eq (fun i => scan (edgeM p g m) i m.fEdges.length) m.fEdges.length (fun rec => ?_) (fun i hi rec ih => ?_) (Nat.zero_le _) (by omega)
        · rw [search_shape.b1, show decide ((m.fEdges.length : Int) < (m.fEdges.length : Int)) = false by simp, cond_false, scan_end]
        · rw [scan_step hi, search_shape.b1, show decide ((i : Int) < (m.fEdges.length : Int)) = true by simp [hi], cond_true, gd (by omega), edgeM]
          unfold jn; dsimp only
          have hr := f.gp.right i (by omega)
          by_cases e1 : rd m.fEdges (i : Int) < 0
          · rw [decide_eq_true e1]; rfl
          · by_cases e2 : rd m.fEdges (i : Int) ≥ (g.fEdges.length : Int)
            · rw [decide_eq_true e2, decide_eq_false e1]; rfl
            · rw [decide_eq_false e2, decide_eq_false e1, cond_false, Bool.or_false, cond_false, cond_false, gd (by omega), gd (by omega), gd (by omega), gd (inR_nat (n := i) (by omega)), gd (by omega), ih]
              cases ((rd p.fEdges (i : Int)).fType != (rd g.fEdges (rd m.fEdges (i : Int))).fType) <;> cases (rd m.fNodes (rd p.fEdges (i : Int)).fFrom != (rd g.fEdges (rd m.fEdges (i : Int))).fFrom) <;> cases (rd m.fNodes (rd p.fEdges (i : Int)).fTo != (rd g.fEdges (rd m.fEdges (i : Int))).fTo) <;> rfl
      · rw [match2_step hi, search_shape.b0, show decide ((i : Int) < (m.fNodes.length : Int)) = true by simp [hi], cond_true, gd (by omega), nodeM]
        unfold jn; dsimp only
        by_cases e1 : rd m.fNodes (i : Int) < 0
        · rw [decide_eq_true e1]; rfl
        · by_cases e2 : rd m.fNodes (i : Int) ≥ (g.fNodes.length : Int)
          · rw [decide_eq_true e2, decide_eq_false e1]; rfl
          · have a1 := f.gp.kind i (by omega)
            have a2 := typedB_node f.tp (j := i) (by omega)
            have a3 := f.gg.kind (rd m.fNodes (i : Int)).toNat (by omega)
            have a4 := typedB_node f.tg (j := (rd m.fNodes (i : Int)).toNat) (by omega)
            rw [Int.toNat_of_nonneg (by omega)] at a3 a4
            have b1 := hM.row (rd p.fNodes (i : Int)).toNat (by omega)
            have b2 := hM.at' (rd p.fNodes (i : Int)).toNat (by omega) (rd g.fNodes (rd m.fNodes (i : Int))).toNat (by omega)
            rw [Int.toNat_of_nonneg (by omega)] at b1 b2
            rw [Int.toNat_of_nonneg (by omega)] at b2
            have b3 := hM.len
            rw [decide_eq_false e2, decide_eq_false e1, cond_false, Bool.or_false, cond_false, cond_false, gd (by omega), gd (by omega), gd (by omega), gd (by omega), b2, gd (inR_nat (n := i) (by omega)), ih]
            cases isB t.fNodes (rd g.fNodes (rd m.fNodes (i : Int))) (rd p.fNodes (i : Int)) <;> rfl
end Go.Proofs.YtcgdfjpeboiioaaGreat
