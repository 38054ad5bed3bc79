/- The laws SearchFirst and SearchExtend about the pure functions. -/
import Derived.Test.YtelpgjfojhcjcaaGreatS8
namespace Go.Proofs.YtelpgjfojhcjcaaGreat
open Go Go.Abs

theorem ctx_of {t : Types} {p g : Graph} (f : Fine t p g) (pn pe : Int → Int) (inj : Bool) : Ctx ⟨p, g, t.fNodes, pn, pe, inj⟩ :=
  ⟨f.gp, f.gg, fun _ hj => typedB_node f.tp hj, fun _ hj => typedB_node f.tg hj, (valid_wf f.ok).1, by have := (valid_wf f.ok).2.1; show t.fNodes.length ≤ 50; omega⟩
theorem edgesL_len {q : Pb} {l : List Int} : ∀ (d : Nat) (e : List Int) (m : Morphism), m ∈ edgesL q l d e → m.fNodes = l ∧ m.fEdges.length = e.length + d
  | 0, e, m, h => by simp [edgesL] at h; subst h; exact ⟨rfl, rfl⟩
  | d + 1, e, m, h => by
    simp only [edgesL, List.mem_flatMap] at h
    obtain ⟨k, _, h⟩ := h
    by_cases ok : okE q l e (k : Int) = true
    · rw [if_pos ok] at h
      obtain ⟨h1, h2⟩ := edgesL_len d _ m h
      exact ⟨h1, by rw [h2]; simp; omega⟩
    · rw [if_neg ok] at h; cases h
theorem nodesL_len {q : Pb} : ∀ (d : Nat) (l : List Int) (m : Morphism), m ∈ nodesL q d l → m.fNodes.length = l.length + d ∧ m.fEdges.length = q.p.fEdges.length
  | 0, l, m, h => by
    obtain ⟨h1, h2⟩ := edgesL_len _ _ m h
    exact ⟨by rw [h1]; rfl, by simpa using h2⟩
  | d + 1, l, m, h => by
    simp only [nodesL, List.mem_flatMap] at h
    obtain ⟨k, _, h⟩ := h
    by_cases ok : okN q l (k : Int) = true
    · rw [if_pos ok] at h
      obtain ⟨h1, h2⟩ := nodesL_len d _ m h
      exact ⟨by rw [h1]; simp; omega, h2⟩
    · rw [if_neg ok] at h; cases h
/-- All matches, up to a number. -/
def allL (q : Pb) (N : Nat) : List Morphism := cut N [] (nodesL q q.p.fNodes.length [])
theorem allL_len {q : Pb} {N : Nat} {m : Morphism} (h : m ∈ allL q N) : m.fNodes.length = q.p.fNodes.length ∧ m.fEdges.length = q.p.fEdges.length := by
  have := nodesL_len _ _ m (List.mem_of_mem_take (by simpa [allL, cut] using h))
  simpa using this
theorem found_eq {k : Nat} (hk : 300 ≤ k) {t : Types} (ht : FewT t) {p g : Graph} (f : Fine t p g) {part : OMorphism} {pn pe : Int → Int} {inj : Bool} {N : Nat} (hN : N ≤ 6000)
    (h1 : ∀ i : Nat, i < p.fNodes.length → pO part.fNodes (i : Int) = pn (i : Int) ∧ ∀ l, part.fNodes = some l → (i : Int) < (l.length : Int))
    (h2 : ∀ i : Nat, i < p.fEdges.length → pO part.fEdges (i : Int) = pe (i : Int) ∧ ∀ l, part.fEdges = some l → (i : Int) < (l.length : Int)) :
    search_found k t p g part inj (N : Int) = some (allL ⟨p, g, t.fNodes, pn, pe, inj⟩ N) := by
  obtain ⟨M, e, hM⟩ := search_below_out (k := k) (by omega) ht f.ok
  have a := f.gp.nodes; have b := f.gp.edges
  unfold search_found
  rw [e, Option.bind_some, find_nodes (q := ⟨p, g, t.fNodes, pn, pe, inj⟩) (ctx_of f pn pe inj) ⟨hM, h1, h2⟩ hN p.fNodes.length k [] [] (by simp) (by dsimp only; omega) (Nat.zero_le _)]
  rfl
theorem run_eq {k : Nat} (hk : 300 ≤ k) {t : Types} {p g : Graph} (f : Fine t p g) {part : Morphism} {pn pe : Int → Int} {inj : Bool} {N : Nat} (hN : N ≤ 6000) (hN0 : 1 ≤ N)
    (l1 : part.fNodes.length = p.fNodes.length) (l2 : part.fEdges.length = p.fEdges.length) (h1 : ∀ i : Nat, i < p.fNodes.length → rd part.fNodes (i : Int) = pn (i : Int)) (h2 : ∀ i : Nat, i < p.fEdges.length → rd part.fEdges (i : Int) = pe (i : Int)) :
    ref17_run k t p g part inj ((N : Int) - 1) = some (allL ⟨p, g, t.fNodes, pn, pe, inj⟩ N) := by
  have a := f.gp.nodes; have b := f.gp.edges
  unfold ref17_run
  rw [ref_nodes (q := ⟨p, g, t.fNodes, pn, pe, inj⟩) (ctx_of f pn pe inj) ⟨rfl, l1, l2, h1, h2⟩ hN hN0 p.fNodes.length k [] [] (by simp) (by dsimp only; omega) (Nat.zero_le _)]
  rfl

/-- A match without images. -/
structure AllNeg (p : Graph) (m : Morphism) : Prop where
  ln : m.fNodes.length = p.fNodes.length
  le : m.fEdges.length = p.fEdges.length
  n : ∀ i : Nat, i < p.fNodes.length → rd m.fNodes (i : Int) = -1
  e : ∀ i : Nat, i < p.fEdges.length → rd m.fEdges (i : Int) = -1
theorem ref17_open_out {k : Nat} (hk : 200 ≤ k) {p : Graph} (hp : GoodG p) : Out (ref17_open k p) (AllNeg p) := by
  have a := hp.nodes; have b := hp.edges
  unfold ref17_open jn; dsimp only
  rw [gd (by simp [lim]; omega), gd (by simp [lim]; omega)]
  refine loop2_out (S := List Int) (P := fun _ _ m => AllNeg p m) (I := fun s i => s.length = p.fNodes.length ∧ ∀ j : Nat, j < i → rd s (j : Int) = -1) p.fNodes.length
    (fun s hs rec => ?_) (fun s i hi hs rec ih => ?_) k 0 _ (Nat.zero_le _) (by omega) ⟨by simp, fun j hj => by omega⟩
  · rw [ref17_open.b0, hs.1, show decide ((p.fNodes.length : Int) < (p.fNodes.length : Int)) = false by simp, cond_false]
    refine loop2_out (S := List Int) (P := fun _ _ m => AllNeg p m) (I := fun s i => s.length = p.fEdges.length ∧ ∀ j : Nat, j < i → rd s (j : Int) = -1) p.fEdges.length
      (fun s' hs' rec => ?_) (fun s' i hi hs' rec ih => ?_) k 0 _ (Nat.zero_le _) (by omega) ⟨by simp, fun j hj => by omega⟩
    · rw [ref17_open.b1, hs'.1, show decide ((p.fEdges.length : Int) < (p.fEdges.length : Int)) = false by simp, cond_false]
      exact ⟨_, rfl, hs.1, hs'.1, hs.2, hs'.2⟩
    · have hl := hs'.1
      rw [ref17_open.b1, hs'.1, show decide ((i : Int) < (p.fEdges.length : Int)) = true by simp [hi], cond_true, gd (by omega), gd (inR_nat (n := i) (by omega))]
      refine ih _ ⟨by simp [hl], fun j hj => ?_⟩
      rw [rd_set (by omega) (by omega) (by omega)]
      by_cases e : (j : Int) = (i : Int)
      · rw [if_pos e]
      · rw [if_neg e]; exact hs'.2 j (by omega)
  · have hl := hs.1
    rw [ref17_open.b0, hs.1, show decide ((i : Int) < (p.fNodes.length : Int)) = true by simp [hi], cond_true, gd (by omega), gd (inR_nat (n := i) (by omega))]
    refine ih _ ⟨by simp [hl], fun j hj => ?_⟩
    rw [rd_set (by omega) (by omega) (by omega)]
    by_cases e : (j : Int) = (i : Int)
    · rw [if_pos e]
    · rw [if_neg e]; exact hs.2 j (by omega)

theorem SameInts2_eq {k : Nat} {a : List Int} (hk : a.length < k) (ha : a.length ≤ 1000000) : ref02_SameInts k a a = some true := by
  unfold ref02_SameInts
  rw [show ((a.length : Int) != (a.length : Int)) = false by simp, cond_false]
  refine loop1_eq (fun _ => true) a.length (fun rec => ?_) (fun i hi rec ih => ?_) (Nat.zero_le _) (by omega)
  · rw [ref02_SameInts.b0, show decide ((a.length : Int) < (a.length : Int)) = false by simp, cond_false]
  · rw [ref02_SameInts.b0, show decide ((i : Int) < (a.length : Int)) = true by simp [hi], cond_true, gd (by omega), gd (by omega), bne_self_eq_false, cond_false, gd (inR_nat (n := i) (by omega)), ih]
theorem ref06_Same_eq {k : Nat} {a : Morphism} (hk : 200 ≤ k) (h1 : a.fNodes.length ≤ 100) (h2 : a.fEdges.length ≤ 100) : ref06_Same k a a = some true := by
  unfold ref06_Same jn; dsimp only
  rw [SameInts2_eq (by omega) (by omega), Option.bind_some, cond_true, SameInts2_eq (by omega) (by omega), Option.bind_some]
theorem SameAll_eq {k : Nat} (hk : 200 ≤ k) {l : List Morphism} (hl : l.length < k) (hl2 : l.length ≤ 6000) (h : ∀ m ∈ l, m.fNodes.length ≤ 100 ∧ m.fEdges.length ≤ 100) : ref17_SameAll k l l = some true := by
  unfold ref17_SameAll
  rw [show ((l.length : Int) != (l.length : Int)) = false by simp, cond_false]
  refine loop1_eq (fun _ => true) l.length (fun rec => ?_) (fun i hi rec ih => ?_) (Nat.zero_le _) (by omega)
  · rw [ref17_SameAll.b0, show decide ((l.length : Int) < (l.length : Int)) = false by simp, cond_false]
  · have hm := h _ (rd_mem (l := l) (x := (i : Int)) (by omega) (by omega))
    rw [ref17_SameAll.b0]; unfold jn; dsimp only
    rw [show decide ((i : Int) < (l.length : Int)) = true by simp [hi], cond_true, gd (by omega), gd (by omega), SameInts_eq (by omega) (by omega) rfl (fun _ _ => rfl), Option.bind_some, Bool.not_true, cond_false, gd (by omega), gd (by omega), SameInts_eq (by omega) (by omega) rfl (fun _ _ => rfl), Option.bind_some, Bool.not_true, cond_false, gd (inR_nat (n := i) (by omega)), ih]

theorem law_first {k : Nat} (hk : 300 ≤ k) (aw : law17_awake k = some true) (c : Case) (inj : Bool) (hA : ∀ n ∈ c.fT.fNodes, n.fAttrs.length ≤ 140737488351232) : law17_SearchFirst k c inj = some true := by
  unfold law17_SearchFirst jn; dsimp only
  rw [aw, Option.bind_some, Bool.not_true, cond_false]
  obtain ⟨b, e, hb⟩ := ref17_Light_out (k := k) (by omega) (p := c.fP) (g := c.fG) hA
  rw [e, Option.bind_some]
  cases b with
  | false => rfl
  | true =>
    have hl := (hb rfl).small
    have hnil : ref06_Same k (Morphism.mk [] []) (Morphism.mk [] []) = some true := ref06_Same_eq (by omega) (by simp) (by simp)
    rw [Bool.not_true, cond_false]
    unfold search_First ref17_First
    rw [search_valid_eq (by omega) hl, Option.bind_some, ref17_given_eq (by omega) hl, Option.bind_some]
    cases hz : (givenS c.fT c.fP c.fG != 0) with
    | true =>
      rw [cond_true, cond_true, Option.bind_some, Option.bind_some]; dsimp only
      rw [beq_self_eq_true, cond_true, hnil, Option.bind_some]
    | false =>
      have f := givenS_fine (by simpa using hz)
      have b1 := f.gp.nodes; have b2 := f.gp.edges
      obtain ⟨o, eo, ho⟩ := ref17_open_out (k := k) (by omega) f.gp
      have hf := found_eq (k := k) hk hl.t f (part := OMorphism.mk none none) (pn := fun _ => -1) (pe := fun _ => -1) (inj := inj) (N := 1) (by omega) (fun i hi => ⟨rfl, fun l h => by cases h⟩) (fun i hi => ⟨rfl, fun l h => by cases h⟩)
      have hr := run_eq (k := k) hk f (part := o) (pn := fun _ => -1) (pe := fun _ => -1) (inj := inj) (N := 1) (by omega) (by omega) ho.ln ho.le ho.n ho.e
      have hf' : search_found k c.fT c.fP c.fG (OMorphism.mk none none) inj 1 = _ := hf
      have hr' : ref17_run k c.fT c.fP c.fG o inj 0 = _ := hr
      rw [cond_false, cond_false, eo, Option.bind_some, hf', Option.bind_some, hr', Option.bind_some]
      have hlen : ∀ m ∈ allL ⟨c.fP, c.fG, c.fT.fNodes, fun _ => -1, fun _ => -1, inj⟩ 1, m.fNodes.length = c.fP.fNodes.length ∧ m.fEdges.length = c.fP.fEdges.length := fun m hm => allL_len hm
      generalize allL ⟨c.fP, c.fG, c.fT.fNodes, fun _ => -1, fun _ => -1, inj⟩ 1 = L at *
      cases hn : ((L.length : Int) == 0) with
      | true =>
        rw [cond_true, Option.bind_some, Option.bind_some]; dsimp only
        rw [beq_self_eq_true, cond_true, hnil, Option.bind_some]
      | false =>
        have hn' : (L.length : Int) ≠ 0 := by simpa using hn
        have hm := hlen _ (rd_mem (l := L) (x := 0) (by omega) (by omega))
        rw [cond_false, gd (by omega), Option.bind_some, Option.bind_some]; dsimp only
        rw [beq_self_eq_true, cond_true, ref06_Same_eq (by omega) (by omega) (by omega), Option.bind_some]

def rangeS (l : List Int) (n : Int) : Int := bif anyN (fun j => decide (rd l (j : Int) < -1) || decide (rd l (j : Int) ≥ n)) 0 l.length then 6 else 0
theorem search_open_eq {k : Nat} {l : List Int} {n : Int} (hk : l.length < k) (hl : l.length ≤ 1000) : search_open k l n = some (rangeS l n) := by
  unfold search_open rangeS
  rw [ContainsFunc_int (k := k) l (fun x => search_open_1 k x n) (fun j => decide (rd l (j : Int) < -1) || decide (rd l (j : Int) ≥ n)) (by omega) (by omega) (fun j _ => by
    unfold search_open_1 jn; dsimp only; cases decide (rd l (j : Int) < -1) <;> rfl), Option.bind_some]
  cases anyN (fun j => decide (rd l (j : Int) < -1) || decide (rd l (j : Int) ≥ n)) 0 l.length <;> rfl
theorem ref17_partly_eq {k : Nat} {l : List Int} {m n : Int} (hk : l.length < k) (hl : l.length ≤ 1000) (hm : (l.length : Int) = m) : ref17_partly k l m n = some (rangeS l n) := by
  unfold ref17_partly
  rw [show ((l.length : Int) != m) = false by simp [hm], cond_false]
  refine loop1_eq (fun i => bif anyN (fun j => decide (rd l (j : Int) < -1) || decide (rd l (j : Int) ≥ n)) i l.length then (6 : Int) else 0) l.length (fun rec => ?_) (fun i hi rec ih => ?_) (Nat.zero_le _) (by omega)
  · rw [ref17_partly.b0, show decide ((l.length : Int) < (l.length : Int)) = false by simp, cond_false, anyN_end, cond_false]
  · rw [anyN_step hi, ref17_partly.b0]; unfold jn; dsimp only
    rw [show decide ((i : Int) < (l.length : Int)) = true by simp [hi], cond_true, gd (by omega), gd (inR_nat (n := i) (by omega)), gd (by omega), ih]
    cases decide (rd l (i : Int) < -1) <;> cases decide (rd l (i : Int) ≥ n) <;> rfl
theorem law_extend {k : Nat} (hk : 6000 ≤ k) (aw : law17_awake k = some true) (c : Case) (m : Morphism) (inj : Bool) (hA : ∀ n ∈ c.fT.fNodes, n.fAttrs.length ≤ 140737488351232) : law17_SearchExtend k c m inj = some true := by
  unfold law17_SearchExtend jn; dsimp only
  rw [aw, Option.bind_some, Bool.not_true, cond_false]
  obtain ⟨b, e, hb⟩ := ref17_Light_out (k := k) (by omega) (p := c.fP) (g := c.fG) hA
  rw [e, Option.bind_some]
  cases b with
  | false => rfl
  | true =>
    have hl := (hb rfl).small
    have hnil : ref17_SameAll k [] [] = some true := SameAll_eq (by omega) (by simp; omega) (by simp) (by simp)
    rw [Bool.not_true, cond_false]
    cases h1 : decide ((m.fNodes.length : Int) > 100) with
    | true => rfl
    | false =>
      cases h2 : decide ((m.fEdges.length : Int) > 100) with
      | true => rfl
      | false =>
        simp at h1 h2
        rw [cond_false, cond_false]
        have fin : ∀ r : List Morphism × Int, r.1.length ≤ 5001 → (∀ x ∈ r.1, x.fNodes.length ≤ 100 ∧ x.fEdges.length ≤ 100) → ((some r).bind fun a => (some r).bind fun b => bif (a.2 == b.2) then ((ref17_SameAll k a.1 b.1).bind fun t => some t) else some false) = some true := fun r h3 h4 => by
          rw [Option.bind_some, Option.bind_some, beq_self_eq_true, cond_true, SameAll_eq (by omega) (by omega) (by omega) h4, Option.bind_some]
        unfold search_Extend ref17_Extend jn; dsimp only
        rw [search_valid_eq (by omega) hl, Option.bind_some, ref17_given_eq (by omega) hl, Option.bind_some]
        cases hz : (givenS c.fT c.fP c.fG != 0) with
        | true => rw [cond_true, cond_true]; exact fin _ (Nat.zero_le _) (by simp)
        | false =>
          have f := givenS_fine (by simpa using hz)
          have b1 := f.gp.nodes; have b2 := f.gp.edges
          rw [cond_false, cond_false]
          cases hl1 : ((m.fNodes.length : Int) != (c.fP.fNodes.length : Int)) with
          | true => exact fin _ (Nat.zero_le _) (by simp)
          | false =>
            cases hl2 : ((m.fEdges.length : Int) != (c.fP.fEdges.length : Int)) with
            | true => exact fin _ (Nat.zero_le _) (by simp)
            | false =>
              have l1 : (m.fNodes.length : Int) = (c.fP.fNodes.length : Int) := by simpa using hl1
              have l2 : (m.fEdges.length : Int) = (c.fP.fEdges.length : Int) := by simpa using hl2
              rw [cond_false, cond_false, cond_false, search_open_eq (by omega) (by omega), Option.bind_some, ref17_partly_eq (by omega) (by omega) l1, Option.bind_some]
              cases hn : (rangeS m.fNodes (c.fG.fNodes.length : Int) != 0) with
              | true => rw [cond_true, cond_true]; exact fin _ (Nat.zero_le _) (by simp)
              | false =>
                rw [cond_false, cond_false, search_open_eq (by omega) (by omega), Option.bind_some, ref17_partly_eq (by omega) (by omega) l2, Option.bind_some]
                cases he : (rangeS m.fEdges (c.fG.fEdges.length : Int) != 0) with
                | true => rw [cond_true, cond_true]; exact fin _ (Nat.zero_le _) (by simp)
                | false =>
                  have hf := found_eq (k := k) (by omega) hl.t f (part := OMorphism.mk (some m.fNodes) (some m.fEdges)) (pn := fun i => rd m.fNodes i) (pe := fun i => rd m.fEdges i) (inj := inj) (N := 5001) (by omega)
                    (fun i hi => ⟨rfl, fun l h => by cases h; omega⟩) (fun i hi => ⟨rfl, fun l h => by cases h; omega⟩)
                  have hr := run_eq (k := k) (by omega) f (part := m) (pn := fun i => rd m.fNodes i) (pe := fun i => rd m.fEdges i) (inj := inj) (N := 5001) (by omega) (by omega) (by omega) (by omega) (fun _ _ => rfl) (fun _ _ => rfl)
                  have hf' : search_found k c.fT c.fP c.fG (OMorphism.mk (some m.fNodes) (some m.fEdges)) inj 5001 = _ := hf
                  have hr' : ref17_run k c.fT c.fP c.fG m inj 5000 = _ := hr
                  rw [cond_false, cond_false, search_all, hf', Option.bind_some, hr', Option.bind_some]
                  have hlen : ∀ x ∈ allL ⟨c.fP, c.fG, c.fT.fNodes, fun i => rd m.fNodes i, fun i => rd m.fEdges i, inj⟩ 5001, x.fNodes.length = c.fP.fNodes.length ∧ x.fEdges.length = c.fP.fEdges.length := fun x hx => allL_len hx
                  have hcut : (allL ⟨c.fP, c.fG, c.fT.fNodes, fun i => rd m.fNodes i, fun i => rd m.fEdges i, inj⟩ 5001).length ≤ 5001 := cut_len
                  generalize allL ⟨c.fP, c.fG, c.fT.fNodes, fun i => rd m.fNodes i, fun i => rd m.fEdges i, inj⟩ 5001 = L at *
                  cases hx : decide ((L.length : Int) > 5000) with
                  | true => rw [cond_true, Option.bind_some]; exact fin _ (Nat.zero_le _) (by simp)
                  | false => rw [cond_false, Option.bind_some]; exact fin (L, 0) hcut (fun x hx => by have := hlen x hx; omega)
end Go.Proofs.YtelpgjfojhcjcaaGreat
