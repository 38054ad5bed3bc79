/- The search: what both ways of looking for matches find, up to a number. -/
import Derived.Test.YtelpgjfojhcjcaaGreatS6
namespace Go.Proofs.YtelpgjfojhcjcaaGreat
open Go Go.Abs

/-- A problem: pattern, graph, node types, given images (-1: none), injective or not. -/
structure Pb where
  p : Graph
  g : Graph
  ns : List NodeType
  pn : Int → Int
  pe : Int → Int
  inj : Bool
def eqE (q : Pb) (l : List Int) (i k : Int) : Bool :=
  ((rd q.p.fEdges i).fType == (rd q.g.fEdges k).fType) && (((rd q.g.fEdges k).fFrom == rd l (rd q.p.fEdges i).fFrom) && ((rd q.g.fEdges k).fTo == rd l (rd q.p.fEdges i).fTo))
def fitE (q : Pb) (l : List Int) (i k : Int) : Bool := !(decide (q.pe i ≥ 0) && (q.pe i != k)) && eqE q l i k
def okE (q : Pb) (l e : List Int) (k : Int) : Bool := fitE q l (e.length : Int) k && !(q.inj && decide (k ∈ e))
def okN (q : Pb) (l : List Int) (n : Int) : Bool :=
  !(decide (q.pn (l.length : Int) ≥ 0) && (q.pn (l.length : Int) != n)) && (isB q.ns (rd q.g.fNodes n) (rd q.p.fNodes (l.length : Int)) && !(q.inj && decide (n ∈ l)))
def edgesL (q : Pb) (l : List Int) : Nat → List Int → List Morphism
  | 0, e => [⟨l, e⟩]
  | d + 1, e => (List.range q.g.fEdges.length).flatMap fun (k : Nat) => if okE q l e (k : Int) = true then edgesL q l d (e ++ [(k : Int)]) else []
def nodesL (q : Pb) : Nat → List Int → List Morphism
  | 0, l => edgesL q l q.p.fEdges.length []
  | d + 1, l => (List.range q.g.fNodes.length).flatMap fun (n : Nat) => if okN q l (n : Int) = true then nodesL q d (l ++ [(n : Int)]) else []
def cut (N : Nat) (o L : List Morphism) : List Morphism := (o ++ L).take N
theorem cut_len {N : Nat} {o L : List Morphism} : (cut N o L).length ≤ N := by simp [cut]; omega
theorem cut_nil {N : Nat} {o : List Morphism} (h : o.length ≤ N) : cut N o [] = o := by unfold cut; rw [List.append_nil, List.take_of_length_le h]
theorem cut_full {N : Nat} {o L : List Morphism} (h : o.length = N) : cut N o L = o := by simp [cut, ← h]
theorem cut_cut {N : Nat} {o A B : List Morphism} : cut N (cut N o A) B = cut N o (A ++ B) := by
  unfold cut
  rw [← List.append_assoc]
  generalize o ++ A = X
  rcases Nat.lt_or_ge X.length N with h | h
  · rw [List.take_of_length_le (l := X) (by omega)]
  · rw [List.take_append_of_le_length (l₁ := X) h, List.take_append_of_le_length (by simp; omega), List.take_take, Nat.min_self]
theorem cut_one {N : Nat} {o : List Morphism} {m : Morphism} (h : o.length + 1 ≤ N) : cut N o [m] = o ++ [m] := by unfold cut; rw [List.take_of_length_le (by simpa using h)]
theorem flat_succ {f : Nat → List Morphism} {i : Nat} : (List.range (i + 1)).flatMap f = (List.range i).flatMap f ++ f i := by simp [List.range_succ, List.flatMap_append]

/-! ### A pruned branch holds nothing -/
theorem edgesL_fit {q : Pb} {l : List Int} : ∀ (d : Nat) (e : List Int) (m : Morphism), m ∈ edgesL q l d e → m.fNodes = l ∧ ∀ i, e.length ≤ i → i < e.length + d → ∃ k, k < q.g.fEdges.length ∧ fitE q l (i : Int) (k : Int) = true
  | 0, e, m, h => by
    simp [edgesL] at h; subst h
    exact ⟨rfl, fun i h1 h2 => by omega⟩
  | d + 1, e, m, h => by
    simp only [edgesL, List.mem_flatMap, List.mem_range] at h
    obtain ⟨k, hk, h⟩ := h
    by_cases ok : okE q l e (k : Int) = true
    · rw [if_pos ok] at h
      obtain ⟨h1, h2⟩ := edgesL_fit d _ m h
      refine ⟨h1, fun i h3 h4 => ?_⟩
      rcases Nat.eq_or_lt_of_le h3 with rfl | h5
      · simp only [okE, Bool.and_eq_true] at ok
        exact ⟨k, hk, ok.1⟩
      · exact h2 i (by simp; omega) (by simp; omega)
    · rw [if_neg ok] at h; cases h
theorem nodesL_fit {q : Pb} : ∀ (d : Nat) (l : List Int) (m : Morphism), m ∈ nodesL q d l → (∃ s, m.fNodes = l ++ s) ∧ ∀ i, i < q.p.fEdges.length → ∃ k, k < q.g.fEdges.length ∧ fitE q m.fNodes (i : Int) (k : Int) = true
  | 0, l, m, h => by
    obtain ⟨h1, h2⟩ := edgesL_fit _ _ m h
    refine ⟨⟨[], by simp [h1]⟩, fun i hi => ?_⟩
    rw [h1]; exact h2 i (by simp) (by simpa using hi)
  | d + 1, l, m, h => by
    simp only [nodesL, List.mem_flatMap, List.mem_range] at h
    obtain ⟨n, hn, h⟩ := h
    by_cases ok : okN q l (n : Int) = true
    · rw [if_pos ok] at h
      obtain ⟨⟨s, hs⟩, h2⟩ := nodesL_fit d _ m h
      exact ⟨⟨(n : Int) :: s, by rw [hs]; simp⟩, h2⟩
    · rw [if_neg ok] at h; cases h
theorem nodesL_none {q : Pb} {d : Nat} {l : List Int} {i : Nat} (hi : i < q.p.fEdges.length) (h1 : 0 ≤ (rd q.p.fEdges (i : Int)).fFrom ∧ (rd q.p.fEdges (i : Int)).fFrom < (l.length : Int)) (h2 : 0 ≤ (rd q.p.fEdges (i : Int)).fTo ∧ (rd q.p.fEdges (i : Int)).fTo < (l.length : Int))
    (hno : ∀ k, k < q.g.fEdges.length → fitE q l (i : Int) (k : Int) = false) : nodesL q d l = [] := by
  cases hL : nodesL q d l with
  | nil => rfl
  | cons m L =>
    exfalso
    obtain ⟨⟨s, hs⟩, hf⟩ := nodesL_fit d l m (by rw [hL]; simp)
    obtain ⟨k, hk, h⟩ := hf i hi
    have := hno k hk
    unfold fitE eqE at h this
    rw [hs, rd_append_lt h1.1 h1.2, rd_append_lt h2.1 h2.2, this] at h
    cases h

/-! ### Loops that carry what is found -/
theorem loop4_eq {R : Type} {b : (List Int → List Int → List Morphism → Int → Option R) → List Int → List Int → List Morphism → Int → Option R} {l e : List Int} (G : Nat → List Morphism) (r : R) (n : Nat)
    (hend : ∀ rec, b rec l e (G n) (n : Int) = some r)
    (hstep : ∀ i, i < n → ∀ rec : List Int → List Int → List Morphism → Int → Option R, rec l e (G (i + 1)) ((i : Int) + 1) = some r → b rec l e (G i) (i : Int) = some r) :
    ∀ k i : Nat, i ≤ n → n < k + i → loop4 k b l e (G i) (i : Int) = some r
  | 0, i, h, hk => by omega
  | k + 1, i, h, hk => by
    rcases Nat.lt_or_ge i n with hl | hl
    · refine hstep i hl _ ?_
      have := loop4_eq G r n hend hstep k (i + 1) hl (by omega)
      simpa using this
    · have : i = n := by omega
      subst this
      exact hend _
theorem loop2_eq {S R : Type} {b : (S → Int → Option R) → S → Int → Option R} (G : Nat → S) (r : R) (n : Nat)
    (hend : ∀ rec, b rec (G n) (n : Int) = some r)
    (hstep : ∀ i, i < n → ∀ rec : S → Int → Option R, rec (G (i + 1)) ((i : Int) + 1) = some r → b rec (G i) (i : Int) = some r) :
    ∀ k i : Nat, i ≤ n → n < k + i → loop2 k b (G i) (i : Int) = some r
  | 0, i, h, hk => by omega
  | k + 1, i, h, hk => by
    rcases Nat.lt_or_ge i n with hl | hl
    · refine hstep i hl _ ?_
      have := loop2_eq G r n hend hstep k (i + 1) hl (by omega)
      simpa using this
    · have : i = n := by omega
      subst this
      exact hend _

/-! ### The program's way -/
def pO (o : Option (List Int)) (i : Int) : Int := match o with
  | none => -1
  | some l => rd l i
theorem search_given_eq {k : Nat} {o : Option (List Int)} {i : Int} (h0 : 0 ≤ i) (h : ∀ l, o = some l → i < (l.length : Int)) : search_given k o i = some (pO o i) := by
  cases o with
  | none => rfl
  | some l => unfold search_given; exact gd ⟨h0, h l rfl⟩ _

/-- What a search is about; the sizes are those of a light case. -/
structure Ctx (q : Pb) : Prop where
  gp : GoodG q.p
  gg : GoodG q.g
  tp : ∀ j : Nat, j < q.p.fNodes.length → rd q.p.fNodes (j : Int) < (q.ns.length : Int)
  tg : ∀ j : Nat, j < q.g.fNodes.length → rd q.g.fNodes (j : Int) < (q.ns.length : Int)
  wf : WfP q.ns q.ns.length
  few : q.ns.length ≤ 50
theorem Ctx.p_kind {q : Pb} (c : Ctx q) {x : Int} (h0 : 0 ≤ x) (h : x < (q.p.fNodes.length : Int)) : 0 ≤ rd q.p.fNodes x ∧ rd q.p.fNodes x < (q.ns.length : Int) := by
  have a := c.gp.kind x.toNat (by omega); have b := c.tp x.toNat (by omega)
  rw [Int.toNat_of_nonneg h0] at a b; exact ⟨a.1, b⟩
theorem Ctx.g_kind {q : Pb} (c : Ctx q) {x : Int} (h0 : 0 ≤ x) (h : x < (q.g.fNodes.length : Int)) : 0 ≤ rd q.g.fNodes x ∧ rd q.g.fNodes x < (q.ns.length : Int) := by
  have a := c.gg.kind x.toNat (by omega); have b := c.tg x.toNat (by omega)
  rw [Int.toNat_of_nonneg h0] at a b; exact ⟨a.1, b⟩
structure FinP (q : Pb) (M : List (List Bool)) (part : OMorphism) : Prop where
  tab : Table q.ns M q.ns.length
  pn : ∀ i : Nat, i < q.p.fNodes.length → pO part.fNodes (i : Int) = q.pn (i : Int) ∧ ∀ l, part.fNodes = some l → (i : Int) < (l.length : Int)
  pe : ∀ i : Nat, i < q.p.fEdges.length → pO part.fEdges (i : Int) = q.pe (i : Int) ∧ ∀ l, part.fEdges = some l → (i : Int) < (l.length : Int)
theorem FinP.table {q : Pb} {M : List (List Bool)} {part : OMorphism} (f : FinP q M part) {a b : Int} (ha : 0 ≤ a ∧ a < (q.ns.length : Int)) (hb : 0 ≤ b ∧ b < (q.ns.length : Int)) :
    a < (M.length : Int) ∧ b < ((rd M a).length : Int) ∧ rd (rd M a) b = isB q.ns b a := by
  have h1 := f.tab.len
  have h2 := f.tab.row a.toNat (by omega)
  have h3 := f.tab.at' a.toNat (by omega) b.toNat (by omega)
  rw [Int.toNat_of_nonneg ha.1] at h2 h3
  rw [Int.toNat_of_nonneg hb.1] at h3
  exact ⟨by omega, by omega, h3⟩

theorem fits_eq {k : Nat} {q : Pb} (c : Ctx q) {M : List (List Bool)} {part : OMorphism} (f : FinP q M part) {N : Int} {l e : List Int} {o : List Morphism} {i j : Nat} (hi : i < q.p.fEdges.length) (hj : j < q.g.fEdges.length)
    (h1 : (rd q.p.fEdges (i : Int)).fFrom < (l.length : Int)) (h2 : (rd q.p.fEdges (i : Int)).fTo < (l.length : Int)) : search_finder_fits k (Finder.mk q.p q.g M part q.inj N l e o) (i : Int) (j : Int) = some (fitE q l (i : Int) (j : Int)) := by
  have hr := c.gp.right i hi
  unfold search_finder_fits jn; dsimp only
  rw [gd (by omega), search_given_eq (by omega) (f.pe i hi).2, Option.bind_some, (f.pe i hi).1, gd (by omega), gd (by omega), gd (by omega)]
  have h3 : ([(rd q.g.fEdges (j : Int)).fType, (rd q.g.fEdges (j : Int)).fFrom, (rd q.g.fEdges (j : Int)).fTo] == [(rd q.p.fEdges (i : Int)).fType, rd l (rd q.p.fEdges (i : Int)).fFrom, rd l (rd q.p.fEdges (i : Int)).fTo]) = eqE q l (i : Int) (j : Int) := by
    rw [Bool.eq_iff_iff]
    simp only [eqE, beq_iff_eq, List.cons.injEq, and_true, Bool.and_eq_true]
    exact ⟨fun ⟨a, b, c⟩ => ⟨a.symm, b, c⟩, fun ⟨a, b, c⟩ => ⟨a.symm, b, c⟩⟩
  rw [h3]; unfold fitE
  cases decide (q.pe (i : Int) ≥ 0) <;> cases (q.pe (i : Int) != (j : Int)) <;> rfl

def badP (q : Pb) (l : List Int) (i : Nat) : Bool :=
  !((if (rd q.p.fEdges (i : Int)).fTo > (rd q.p.fEdges (i : Int)).fFrom then (rd q.p.fEdges (i : Int)).fTo else (rd q.p.fEdges (i : Int)).fFrom) != ((l.length : Int) - 1)) && !anyN (fun j => fitE q l (i : Int) (j : Int)) 0 q.g.fEdges.length
theorem possible_eq {k : Nat} (hk : 150 ≤ k) {q : Pb} (c : Ctx q) {M : List (List Bool)} {part : OMorphism} (f : FinP q M part) {N : Int} {l e : List Int} {o : List Morphism} (hl : l.length ≤ 100) :
    search_finder_possible k (Finder.mk q.p q.g M part q.inj N l e o) = some (!anyN (badP q l) 0 q.p.fEdges.length) := by
  have hpe := c.gp.edges; have hge := c.gg.edges
  unfold search_finder_possible; dsimp only
  rw [gd (inR_of (by omega))]
  refine loop1_eq (fun i => !anyN (badP q l) i q.p.fEdges.length) q.p.fEdges.length (fun rec => ?_) (fun i hi rec ih => ?_) (Nat.zero_le _) (by omega)
  · simp only [search_finder_possible.b0, show decide ((q.p.fEdges.length : Int) < (q.p.fEdges.length : Int)) = false by simp, cond_false, anyN_end, Bool.not_false]
  · have hr := c.gp.right i hi
    rw [anyN_step hi, search_finder_possible.b0]; dsimp only
    rw [show decide ((i : Int) < (q.p.fEdges.length : Int)) = true by simp [hi], cond_true, gd (by omega), gd (inR_nat (n := i) (by omega)), ih]
    unfold badP
    cases hm : ((if (rd q.p.fEdges (i : Int)).fTo > (rd q.p.fEdges (i : Int)).fFrom then (rd q.p.fEdges (i : Int)).fTo else (rd q.p.fEdges (i : Int)).fFrom) != ((l.length : Int) - 1)) with
    | true => simp
    | false =>
      have hm' : (if (rd q.p.fEdges (i : Int)).fTo > (rd q.p.fEdges (i : Int)).fFrom then (rd q.p.fEdges (i : Int)).fTo else (rd q.p.fEdges (i : Int)).fFrom) = (l.length : Int) - 1 := by simpa using hm
      have hb : (rd q.p.fEdges (i : Int)).fFrom < (l.length : Int) ∧ (rd q.p.fEdges (i : Int)).fTo < (l.length : Int) := by
        split at hm' <;> omega
      rw [cond_false, Bool.not_false, Bool.true_and]
      have h5 : loop1 k (search_finder_possible.b1 k (Finder.mk q.p q.g M part q.inj N l e o) (i : Int) rec) ((0 : Nat) : Int) = some (anyN (fun j => fitE q l (i : Int) (j : Int)) 0 q.g.fEdges.length && !anyN (badP q l) (i + 1) q.p.fEdges.length) := by
        refine loop1_eq (fun j => anyN (fun j => fitE q l (i : Int) (j : Int)) j q.g.fEdges.length && !anyN (badP q l) (i + 1) q.p.fEdges.length) q.g.fEdges.length (fun rec1 => ?_) (fun j hj rec1 ih1 => ?_) (Nat.zero_le _) (by omega)
        · simp only [search_finder_possible.b1, show decide ((q.g.fEdges.length : Int) < (q.g.fEdges.length : Int)) = false by simp, cond_false, anyN_end, Bool.false_and]
        · rw [anyN_step hj, search_finder_possible.b1]; dsimp only
          rw [show decide ((j : Int) < (q.g.fEdges.length : Int)) = true by simp [hj], cond_true, fits_eq c f hi hj hb.1 hb.2, Option.bind_some, gd (inR_nat (n := i) (by omega)), gd (inR_nat (n := j) (by omega)), ih, ih1]
          cases fitE q l (i : Int) (j : Int) with
          | true => rw [cond_true, Bool.true_or, Bool.true_and]
          | false => rw [cond_false, Bool.false_or]
      have h6 : loop1 k (search_finder_possible.b1 k (Finder.mk q.p q.g M part q.inj N l e o) (i : Int) rec) 0 = _ := h5
      rw [h6, Bool.not_or, Bool.not_not]; rfl
theorem badP_none {q : Pb} (c : Ctx q) {d : Nat} {l : List Int} (h : anyN (badP q l) 0 q.p.fEdges.length = true) : nodesL q d l = [] := by
  obtain ⟨i, _, hi, hb⟩ := anyN_iff.1 h
  have hr := c.gp.right i hi
  simp only [badP, Bool.and_eq_true, Bool.not_eq_true', bne_eq_false_iff_eq] at hb
  obtain ⟨hm, hf⟩ := hb
  have hb : (rd q.p.fEdges (i : Int)).fFrom < (l.length : Int) ∧ (rd q.p.fEdges (i : Int)).fTo < (l.length : Int) := by
    split at hm <;> omega
  exact nodesL_none hi ⟨hr.2.1.1, hb.1⟩ ⟨hr.2.2.1, hb.2⟩ fun k hk => anyN_false hf k (Nat.zero_le _) hk

theorem find_edges {q : Pb} (c : Ctx q) {M : List (List Bool)} {part : OMorphism} (f : FinP q M part) {N : Nat} (hN : N ≤ 6000) {l : List Int} (hl : l.length = q.p.fNodes.length) :
    ∀ (d k : Nat) (e : List Int) (o : List Morphism), e.length + d = q.p.fEdges.length → 151 + d ≤ k → o.length ≤ N → search_finder_find k (Finder.mk q.p q.g M part q.inj (N : Int) l e o) = some (l, e, cut N o (edgesL q l d e))
  | d, 0, _, _, _, h, _ => by omega
  | d, k + 1, e, o, he, hk, ho => by
    have hpn := c.gp.nodes; have hpe := c.gp.edges; have hge := c.gg.edges
    unfold search_finder_find search_finder_find.main jn; dsimp only
    cases hb : ((o.length : Int) == (N : Int)) with
    | true =>
      have : (o.length : Int) = (N : Int) := by simpa using hb
      rw [cond_true, cut_full (by omega)]
    | false =>
      have hne : (o.length : Int) ≠ (N : Int) := by simpa using hb
      rw [cond_false, decide_eq_false (show ¬ (l.length : Int) < (q.p.fNodes.length : Int) by omega), cond_false]
      cases d with
      | zero =>
        rw [decide_eq_false (show ¬ (e.length : Int) < (q.p.fEdges.length : Int) by omega), cond_false, slices_Clone_int, if_pos (by simp [lim]; omega), Option.bind_some, slices_Clone_int, if_pos (by simp [lim]; omega), Option.bind_some, gd (by simp [lim]; omega)]
        rw [edgesL, cut_one (by omega)]
      | succ d =>
        rw [decide_eq_true (show (e.length : Int) < (q.p.fEdges.length : Int) by omega), cond_true]
        have h5 := loop4_eq (b := search_finder_find.b1 k (search_finder_find k) (Finder.mk q.p q.g M part q.inj (N : Int) l e o) (fun y9 y10 y11 => some (y9, y10, y11))) (l := l) (e := e)
          (fun i => cut N o ((List.range i).flatMap fun (k : Nat) => if okE q l e (k : Int) = true then edgesL q l d (e ++ [(k : Int)]) else [])) (l, e, cut N o (edgesL q l (d + 1) e)) q.g.fEdges.length (fun rec => ?_) (fun i hi rec ih => ?_) k 0 (Nat.zero_le _) (by omega)
        · have e0 : cut N o ((List.range 0).flatMap fun (k : Nat) => if okE q l e (k : Int) = true then edgesL q l d (e ++ [(k : Int)]) else []) = o := cut_nil ho
          rw [e0] at h5
          exact h5
        · rw [search_finder_find.b1]; dsimp only
          rw [show decide ((q.g.fEdges.length : Int) < (q.g.fEdges.length : Int)) = false by simp, cond_false]
          rfl
        · rw [flat_succ, ← cut_cut] at ih
          generalize hG : cut N o ((List.range i).flatMap fun (k : Nat) => if okE q l e (k : Int) = true then edgesL q l d (e ++ [(k : Int)]) else []) = G at *
          have hGl : G.length ≤ N := by rw [← hG]; exact cut_len
          have hr := c.gp.right e.length (by omega)
          rw [search_finder_find.b1]; unfold jn; dsimp only
          rw [show decide ((i : Int) < (q.g.fEdges.length : Int)) = true by simp [hi], cond_true, fits_eq c f (by omega) hi (by omega) (by omega), Option.bind_some, Contains_int _ _ (by omega) (by omega), anyN_mem]
          have hno : okE q l e (i : Int) = false → (if inR ((i : Int) + 1) then rec l e G ((i : Int) + 1) else none) = some (l, e, cut N o (edgesL q l (d + 1) e)) := fun h => by
            rw [gd (inR_nat (n := i) (by omega))]
            rw [if_neg (by rw [h]; simp), cut_nil hGl] at ih
            exact ih
          have hyes : okE q l e (i : Int) = true → (if e.length + [(i : Int)].length ≤ lim then ((search_finder_find k (Finder.mk q.p q.g M part q.inj (N : Int) l (e ++ [(i : Int)]) G)).bind fun t7008 => (if (0 : Int) ≤ (e.length : Int) ∧ (e.length : Int) ≤ (t7008.2.1.length : Int) then (if inR ((i : Int) + 1) then (rec t7008.1 (t7008.2.1.take ((e.length : Int) : Int).toNat) t7008.2.2 ((i : Int) + 1)) else none) else none)) else none) = some (l, e, cut N o (edgesL q l (d + 1) e)) := fun h => by
            rw [gd (by simp [lim]; omega), find_edges c f hN hl d k (e ++ [(i : Int)]) G (by simp; omega) (by omega) hGl, Option.bind_some, gd (by rw [List.length_append]; simp; omega), gd (inR_nat (n := i) (by omega))]
            rw [if_pos h] at ih
            rw [show (e ++ [(i : Int)]).take ((e.length : Int)).toNat = e by simp]
            exact ih
          have key : ∀ A B : Option (List Int × List Int × List Morphism), (bif !fitE q l (e.length : Int) (i : Int) then (bif true then A else B) else (bif q.inj then ((some (decide ((i : Int) ∈ e))).bind fun t => (bif t then A else B)) else (bif false then A else B))) = bif okE q l e (i : Int) then B else A := fun A B => by
            unfold okE
            cases fitE q l (e.length : Int) (i : Int) <;> cases q.inj <;> cases decide ((i : Int) ∈ e) <;> rfl
          rw [key]
          cases hz : okE q l e (i : Int) with
          | false => rw [cond_false]; exact hno hz
          | true => rw [cond_true]; exact hyes hz
end Go.Proofs.YtelpgjfojhcjcaaGreat
