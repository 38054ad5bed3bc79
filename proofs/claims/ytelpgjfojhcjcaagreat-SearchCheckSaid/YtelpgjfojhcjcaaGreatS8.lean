/- The search, gone on: nodes; the reference's way. -/
import Derived.Test.YtelpgjfojhcjcaaGreatS7
namespace Go.Proofs.YtelpgjfojhcjcaaGreat
open Go Go.Abs

theorem find_nodes {q : Pb} (c : Ctx q) {M : List (List Bool)} {part : OMorphism} (f : FinP q M part) {N : Nat} (hN : N ≤ 6000) :
    ∀ (d k : Nat) (l : List Int) (o : List Morphism), l.length + d = q.p.fNodes.length → 152 + q.p.fEdges.length + d ≤ k → o.length ≤ N → search_finder_find k (Finder.mk q.p q.g M part q.inj (N : Int) l [] o) = some (l, [], cut N o (nodesL q d l))
  | 0, k, l, o, hl, hk, ho => find_edges c f hN (by omega) q.p.fEdges.length k [] o (by simp) (by omega) ho
  | d + 1, 0, _, _, _, h, _ => by omega
  | d + 1, k + 1, l, o, hl, hk, ho => by
    have hpn := c.gp.nodes; have hpe := c.gp.edges; have hge := c.gg.edges; have hgn := c.gg.nodes
    unfold search_finder_find search_finder_find.main jn; dsimp only
    cases hb : ((o.length : Int) == (N : Int)) with
    | true =>
      have : (o.length : Int) = (N : Int) := by simpa using hb
      rw [cond_true, cut_full (by omega)]
    | false =>
      have hne : (o.length : Int) ≠ (N : Int) := by simpa using hb
      rw [cond_false, decide_eq_true (show (l.length : Int) < (q.p.fNodes.length : Int) by omega), cond_true]
      have h5 := loop4_eq (b := search_finder_find.b0 k (search_finder_find k) (Finder.mk q.p q.g M part q.inj (N : Int) l [] o) (fun y9 y10 y11 => some (y9, y10, y11))) (l := l) (e := [])
        (fun i => cut N o ((List.range i).flatMap fun (k : Nat) => if okN q l (k : Int) = true then nodesL q d (l ++ [(k : Int)]) else [])) (l, [], cut N o (nodesL q (d + 1) l)) q.g.fNodes.length (fun rec => ?_) (fun i hi rec ih => ?_) k 0 (Nat.zero_le _) (by omega)
      · have e0 : cut N o ((List.range 0).flatMap fun (k : Nat) => if okN q l (k : Int) = true then nodesL q d (l ++ [(k : Int)]) else []) = o := cut_nil ho
        rw [e0] at h5
        exact h5
      · rw [search_finder_find.b0]; dsimp only
        rw [show decide ((q.g.fNodes.length : Int) < (q.g.fNodes.length : Int)) = false by simp, cond_false]
        rfl
      · rw [flat_succ, ← cut_cut] at ih
        generalize hG : cut N o ((List.range i).flatMap fun (k : Nat) => if okN q l (k : Int) = true then nodesL q d (l ++ [(k : Int)]) else []) = G at *
        have hGl : G.length ≤ N := by rw [← hG]; exact cut_len
        have hpk := c.p_kind (x := (l.length : Int)) (by omega) (by omega)
        have hgk := c.g_kind (x := (i : Int)) (by omega) (by omega)
        obtain ⟨ht1, ht2, ht3⟩ := f.table hpk hgk
        rw [search_finder_find.b0]; unfold jn; dsimp only
        rw [show decide ((i : Int) < (q.g.fNodes.length : Int)) = true by simp [hi], cond_true, gd (by omega), search_given_eq (by omega) (f.pn l.length (by omega)).2, Option.bind_some, (f.pn l.length (by omega)).1, Contains_int _ _ (by omega) (by omega), anyN_mem,
          gd (show (0 : Int) ≤ (l.length : Int) ∧ (l.length : Int) < (q.p.fNodes.length : Int) by omega), gd (show 0 ≤ rd q.p.fNodes (l.length : Int) ∧ rd q.p.fNodes (l.length : Int) < (M.length : Int) from ⟨hpk.1, ht1⟩),
          gd (show 0 ≤ rd q.g.fNodes (i : Int) ∧ rd q.g.fNodes (i : Int) < ((rd M (rd q.p.fNodes (l.length : Int))).length : Int) from ⟨hgk.1, ht2⟩), ht3]
        have key : ∀ A B : Option (List Int × List Int × List Morphism), (bif decide (q.pn (l.length : Int) ≥ 0) then (bif q.pn (l.length : Int) != (i : Int) then (bif true then A else B) else (bif !isB q.ns (rd q.g.fNodes (i : Int)) (rd q.p.fNodes (l.length : Int)) then (bif true then A else B) else (bif q.inj then ((some (decide ((i : Int) ∈ l))).bind fun t => (bif t then A else B)) else (bif false then A else B))))
            else (bif !isB q.ns (rd q.g.fNodes (i : Int)) (rd q.p.fNodes (l.length : Int)) then (bif true then A else B) else (bif q.inj then ((some (decide ((i : Int) ∈ l))).bind fun t => (bif t then A else B)) else (bif false then A else B)))) = bif okN q l (i : Int) then B else A := fun A B => by
          unfold okN
          cases decide (q.pn (l.length : Int) ≥ 0) <;> cases (q.pn (l.length : Int) != (i : Int)) <;> cases isB q.ns (rd q.g.fNodes (i : Int)) (rd q.p.fNodes (l.length : Int)) <;> cases q.inj <;> cases decide ((i : Int) ∈ l) <;> rfl
        rw [key]
        cases hz : okN q l (i : Int) with
        | false =>
          rw [cond_false, gd (inR_nat (n := i) (by omega))]
          rw [if_neg (by rw [hz]; simp), cut_nil hGl] at ih
          exact ih
        | true =>
          have htk : (l ++ [(i : Int)]).take ((l.length : Int)).toNat = l := by simp
          have hle : (0 : Int) ≤ (l.length : Int) ∧ (l.length : Int) ≤ ((l ++ [(i : Int)]).length : Int) := by rw [List.length_append]; simp; omega
          rw [cond_true, gd (by simp [lim]; omega), possible_eq (by omega) c f (by simp; omega), Option.bind_some]
          rw [if_pos hz] at ih
          cases hp : anyN (badP q (l ++ [(i : Int)])) 0 q.p.fEdges.length with
          | true =>
            rw [Bool.not_true, cond_false, gd hle, gd (inR_nat (n := i) (by omega)), htk]
            rw [badP_none c hp, cut_nil hGl] at ih
            exact ih
          | false =>
            rw [Bool.not_false, cond_true, find_nodes c f hN d k (l ++ [(i : Int)]) G (by simp; omega) (by omega) hGl, Option.bind_some, gd hle, gd (inR_nat (n := i) (by omega)), htk]
            exact ih

/-! ### The reference's way -/
theorem used_eq {k : Nat} {S : Search} {l : List Int} {n : Int} (hk : l.length < k) (hl : l.length ≤ 1000000) : ref17_search_used k S l n = some (S.finjective && decide (n ∈ l)) := by
  have h : ref17_search_used k S l n = some (S.finjective && anyN (fun j => rd l (j : Int) == n) 0 l.length) := by
    refine loop1_eq (fun i => S.finjective && anyN (fun j => rd l (j : Int) == n) i l.length) l.length (fun rec => ?_) (fun i hi rec ih => ?_) (Nat.zero_le _) (by omega)
    · rw [ref17_search_used.b0]; unfold jn; dsimp only
      rw [show decide ((l.length : Int) < (l.length : Int)) = false by simp, cond_false, cond_false, anyN_end, Bool.and_false]
    · rw [anyN_step hi, ref17_search_used.b0]; unfold jn; dsimp only
      rw [show decide ((i : Int) < (l.length : Int)) = true by simp [hi], cond_true, gd (by omega), gd (inR_nat (n := i) (by omega)), ih]
      cases S.finjective <;> cases (rd l (i : Int) == n) <;> rfl
  rw [h, anyN_congr (q := fun j => n == rd l (j : Int)) (fun j _ _ => Bool.beq_comm), anyN_mem]

def badR (q : Pb) (l : List Int) (i : Nat) : Bool :=
  !(decide ((rd q.p.fEdges (i : Int)).fFrom ≥ (l.length : Int)) || decide ((rd q.p.fEdges (i : Int)).fTo ≥ (l.length : Int))) && !anyN (fun j => eqE q l (i : Int) (j : Int)) 0 q.g.fEdges.length
theorem ref_fits_eq {k : Nat} (hk : 150 ≤ k) {q : Pb} (c : Ctx q) {t : Types} {part : Morphism} {M : Int} {o : List Morphism} {l : List Int} (hl : l.length ≤ 100) :
    ref17_search_fits k (Search.mk t q.p q.g part q.inj M o) l = some (!anyN (badR q l) 0 q.p.fEdges.length) := by
  have hpe := c.gp.edges; have hge := c.gg.edges
  refine loop1_eq (fun i => !anyN (badR q l) i q.p.fEdges.length) q.p.fEdges.length (fun rec => ?_) (fun i hi rec ih => ?_) (Nat.zero_le _) (by omega)
  · simp only [ref17_search_fits.b0, show decide ((q.p.fEdges.length : Int) < (q.p.fEdges.length : Int)) = false by simp, cond_false, anyN_end, Bool.not_false]
  · have hr := c.gp.right i hi
    rw [anyN_step hi, ref17_search_fits.b0]; unfold jn; dsimp only
    rw [show decide ((i : Int) < (q.p.fEdges.length : Int)) = true by simp [hi], cond_true, gd (by omega), gd (inR_nat (n := i) (by omega)), ih]
    unfold badR
    cases h1 : decide ((rd q.p.fEdges (i : Int)).fFrom ≥ (l.length : Int)) with
    | true => simp
    | false =>
      cases h2 : decide ((rd q.p.fEdges (i : Int)).fTo ≥ (l.length : Int)) with
      | true => simp
      | false =>
        simp only [decide_eq_false_iff_not] at h1 h2
        rw [cond_false, cond_false, Bool.or_false, Bool.not_false, Bool.true_and]
        have h5 := loop2_out (S := Bool) (b := ref17_search_fits.b1 (Search.mk t q.p q.g part q.inj M o) l (i : Int) rec) (I := fun _ _ => True)
          (P := fun s j r => r = ((s || anyN (fun j => eqE q l (i : Int) (j : Int)) j q.g.fEdges.length) && !anyN (badR q l) (i + 1) q.p.fEdges.length)) q.g.fEdges.length (fun s _ rec1 => ?_) (fun s j hj _ rec1 ih1 => ?_) k 0 false (Nat.zero_le _) (by omega) trivial
        · have h6 : loop2 k (ref17_search_fits.b1 (Search.mk t q.p q.g part q.inj M o) l (i : Int) rec) false 0 = _ := h5.eq
          rw [h6, Bool.false_or, Bool.not_or, Bool.not_not]; rfl
        · rw [ref17_search_fits.b1]; dsimp only
          rw [show decide ((q.g.fEdges.length : Int) < (q.g.fEdges.length : Int)) = false by simp, cond_false, anyN_end, Bool.or_false, gd (inR_nat (n := i) (by omega)), ih]
          cases s
          · exact ⟨_, rfl, rfl⟩
          · exact ⟨_, rfl, rfl⟩
        · rw [anyN_step hj, ref17_search_fits.b1]; unfold jn; dsimp only
          rw [show decide ((j : Int) < (q.g.fEdges.length : Int)) = true by simp [hj], cond_true, gd (by omega), gd (inR_nat (n := j) (by omega)), gd (inR_nat (n := j) (by omega)), gd (show 0 ≤ (rd q.p.fEdges (i : Int)).fFrom ∧ (rd q.p.fEdges (i : Int)).fFrom < (l.length : Int) by omega), gd (show 0 ≤ (rd q.p.fEdges (i : Int)).fTo ∧ (rd q.p.fEdges (i : Int)).fTo < (l.length : Int) by omega),
            gd (inR_nat (n := j) (by omega)), show eqE q l (i : Int) (j : Int) = (((rd q.p.fEdges (i : Int)).fType == (rd q.g.fEdges (j : Int)).fType) && (((rd q.g.fEdges (j : Int)).fFrom == rd l (rd q.p.fEdges (i : Int)).fFrom) && ((rd q.g.fEdges (j : Int)).fTo == rd l (rd q.p.fEdges (i : Int)).fTo))) from rfl]
          cases s with
          | true => exact (ih1 true trivial).mono fun r h => by rw [h]; simp
          | false =>
            cases ((rd q.p.fEdges (i : Int)).fType == (rd q.g.fEdges (j : Int)).fType) with
            | false => exact (ih1 false trivial).mono fun r h => by rw [h]; simp
            | true =>
              cases ((rd q.g.fEdges (j : Int)).fFrom == rd l (rd q.p.fEdges (i : Int)).fFrom) with
              | false => exact (ih1 false trivial).mono fun r h => by rw [h]; simp
              | true => exact (ih1 _ trivial).mono fun r h => by rw [h]; simp
theorem badR_none {q : Pb} (c : Ctx q) {d : Nat} {l : List Int} (h : anyN (badR q l) 0 q.p.fEdges.length = true) : nodesL q d l = [] := by
  obtain ⟨i, _, hi, hb⟩ := anyN_iff.1 h
  have hr := c.gp.right i hi
  simp only [badR, Bool.and_eq_true, Bool.not_eq_true', Bool.or_eq_false_iff, decide_eq_false_iff_not] at hb
  obtain ⟨hm, hf⟩ := hb
  exact nodesL_none hi ⟨hr.2.1.1, by omega⟩ ⟨hr.2.2.1, by omega⟩ fun k hk => by
    have := anyN_false hf k (Nat.zero_le _) hk
    unfold fitE; rw [this, Bool.and_false]

structure RefP (q : Pb) (t : Types) (part : Morphism) : Prop where
  ns : t.fNodes = q.ns
  ln : part.fNodes.length = q.p.fNodes.length
  le : part.fEdges.length = q.p.fEdges.length
  pn : ∀ i : Nat, i < q.p.fNodes.length → rd part.fNodes (i : Int) = q.pn (i : Int)
  pe : ∀ i : Nat, i < q.p.fEdges.length → rd part.fEdges (i : Int) = q.pe (i : Int)
theorem ref_edges {q : Pb} (c : Ctx q) {t : Types} {part : Morphism} (f : RefP q t part) {N : Nat} (hN : N ≤ 6000) (hN0 : 1 ≤ N) {l : List Int} (hl : l.length = q.p.fNodes.length) :
    ∀ (d k : Nat) (e : List Int) (o : List Morphism), e.length + d = q.p.fEdges.length → 151 + d ≤ k → o.length ≤ N → ref17_search_edges k (Search.mk t q.p q.g part q.inj ((N : Int) - 1) o) l e = some (cut N o (edgesL q l d e))
  | d, 0, _, _, _, h, _ => by omega
  | d, k + 1, e, o, he, hk, ho => by
    have hpn := c.gp.nodes; have hpe := c.gp.edges; have hge := c.gg.edges
    unfold ref17_search_edges ref17_search_edges.main; dsimp only
    by_cases hb : (o.length : Int) > (N : Int) - 1
    · rw [decide_eq_true hb, cond_true, cut_full (by omega)]
    · rw [decide_eq_false hb, cond_false]
      cases d with
      | zero =>
        rw [show ((e.length : Int) == (q.p.fEdges.length : Int)) = true by simp; omega, cond_true, gd (by simp [lim]; omega), gd (by simp [lim]; omega), gd (by simp [lim]; omega), edgesL, cut_one (by omega)]
      | succ d =>
        rw [show ((e.length : Int) == (q.p.fEdges.length : Int)) = false by simp; omega, cond_false, gd (by omega)]
        have h5 := loop2_eq (b := ref17_search_edges.b0 k (ref17_search_edges k) (Search.mk t q.p q.g part q.inj ((N : Int) - 1) o) l e)
          (fun i => cut N o ((List.range i).flatMap fun (k : Nat) => if okE q l e (k : Int) = true then edgesL q l d (e ++ [(k : Int)]) else [])) (cut N o (edgesL q l (d + 1) e)) q.g.fEdges.length (fun rec => ?_) (fun i hi rec ih => ?_) k 0 (Nat.zero_le _) (by omega)
        · have e0 : cut N o ((List.range 0).flatMap fun (k : Nat) => if okE q l e (k : Int) = true then edgesL q l d (e ++ [(k : Int)]) else []) = o := cut_nil ho
          rw [e0] at h5
          exact h5
        · rw [ref17_search_edges.b0]; dsimp only
          rw [show decide ((q.g.fEdges.length : Int) < (q.g.fEdges.length : Int)) = false by simp, cond_false]
          rfl
        · rw [flat_succ, ← cut_cut] at ih
          generalize hG : cut N o ((List.range i).flatMap fun (k : Nat) => if okE q l e (k : Int) = true then edgesL q l d (e ++ [(k : Int)]) else []) = G at *
          have hGl : G.length ≤ N := by rw [← hG]; exact cut_len
          have hr := c.gp.right e.length (by omega)
          have hle := f.le
          rw [ref17_search_edges.b0]; unfold jn; dsimp only
          rw [show decide ((i : Int) < (q.g.fEdges.length : Int)) = true by simp [hi], cond_true, gd (by omega), gd (show (0 : Int) ≤ (e.length : Int) ∧ (e.length : Int) < (part.fEdges.length : Int) by omega), gd (show (0 : Int) ≤ (e.length : Int) ∧ (e.length : Int) < (part.fEdges.length : Int) by omega), f.pe e.length (by omega), used_eq (by omega) (by omega), Option.bind_some,
            gd (show 0 ≤ (rd q.p.fEdges (e.length : Int)).fFrom ∧ (rd q.p.fEdges (e.length : Int)).fFrom < (l.length : Int) by omega), gd (show 0 ≤ (rd q.p.fEdges (e.length : Int)).fTo ∧ (rd q.p.fEdges (e.length : Int)).fTo < (l.length : Int) by omega)]
          have key : ∀ A B : Option (List Morphism), (bif decide (q.pe (e.length : Int) ≥ 0) then (bif q.pe (e.length : Int) != (i : Int) then (bif true then A else B) else (bif q.inj && decide ((i : Int) ∈ e) then (bif true then A else B) else (bif (rd q.p.fEdges (e.length : Int)).fType != (rd q.g.fEdges (i : Int)).fType then (bif true then A else B) else (bif (rd q.g.fEdges (i : Int)).fFrom != rd l (rd q.p.fEdges (e.length : Int)).fFrom then (bif true then A else B) else (bif (rd q.g.fEdges (i : Int)).fTo != rd l (rd q.p.fEdges (e.length : Int)).fTo then A else B)))))
              else (bif q.inj && decide ((i : Int) ∈ e) then (bif true then A else B) else (bif (rd q.p.fEdges (e.length : Int)).fType != (rd q.g.fEdges (i : Int)).fType then (bif true then A else B) else (bif (rd q.g.fEdges (i : Int)).fFrom != rd l (rd q.p.fEdges (e.length : Int)).fFrom then (bif true then A else B) else (bif (rd q.g.fEdges (i : Int)).fTo != rd l (rd q.p.fEdges (e.length : Int)).fTo then A else B))))) = bif okE q l e (i : Int) then B else A := fun A B => by
            unfold okE fitE eqE bne
            cases decide (q.pe (e.length : Int) ≥ 0) <;> cases (q.pe (e.length : Int) == (i : Int)) <;> cases (q.inj && decide ((i : Int) ∈ e)) <;> cases ((rd q.p.fEdges (e.length : Int)).fType == (rd q.g.fEdges (i : Int)).fType) <;> cases ((rd q.g.fEdges (i : Int)).fFrom == rd l (rd q.p.fEdges (e.length : Int)).fFrom) <;> cases ((rd q.g.fEdges (i : Int)).fTo == rd l (rd q.p.fEdges (e.length : Int)).fTo) <;> rfl
          rw [key]
          cases hz : okE q l e (i : Int) with
          | false =>
            rw [cond_false, gd (inR_nat (n := i) (by omega))]
            rw [if_neg (by rw [hz]; simp), cut_nil hGl] at ih
            exact ih
          | true =>
            rw [if_pos hz] at ih
            rw [cond_true, gd (by simp [lim]; omega), gd (by simp [lim]; omega), ref_edges c f hN hN0 hl d k (e ++ [(i : Int)]) G (by simp; omega) (by omega) hGl, Option.bind_some, gd (inR_nat (n := i) (by omega))]
            exact ih
theorem ref_nodes {q : Pb} (c : Ctx q) {t : Types} {part : Morphism} (f : RefP q t part) {N : Nat} (hN : N ≤ 6000) (hN0 : 1 ≤ N) :
    ∀ (d k : Nat) (l : List Int) (o : List Morphism), l.length + d = q.p.fNodes.length → 160 + q.p.fEdges.length + d ≤ k → o.length ≤ N → ref17_search_nodes k (Search.mk t q.p q.g part q.inj ((N : Int) - 1) o) l = some (cut N o (nodesL q d l))
  | d, 0, _, _, _, h, _ => by omega
  | d, k + 1, l, o, hl, hk, ho => by
    have hpn := c.gp.nodes; have hpe := c.gp.edges; have hge := c.gg.edges; have hgn := c.gg.nodes
    unfold ref17_search_nodes ref17_search_nodes.main jn; dsimp only
    by_cases hb : (o.length : Int) > (N : Int) - 1
    · rw [decide_eq_true hb, cond_true, cond_true, cut_full (by omega)]
    · rw [decide_eq_false hb, cond_false, ref_fits_eq (by omega) c (by omega), Option.bind_some, Bool.not_not]
      cases hp : anyN (badR q l) 0 q.p.fEdges.length with
      | true => rw [cond_true, badR_none c hp, cut_nil ho]
      | false =>
        rw [cond_false]
        cases d with
        | zero =>
          rw [show ((l.length : Int) == (q.p.fNodes.length : Int)) = true by simp; omega, cond_true, ref_edges c f hN hN0 (by omega) q.p.fEdges.length k [] o (by simp) (by omega) ho]
          rfl
        | succ d =>
          rw [show ((l.length : Int) == (q.p.fNodes.length : Int)) = false by simp; omega, cond_false]
          have h5 := loop2_eq (b := ref17_search_nodes.b0 k (ref17_search_nodes k) (Search.mk t q.p q.g part q.inj ((N : Int) - 1) o) l)
            (fun i => cut N o ((List.range i).flatMap fun (k : Nat) => if okN q l (k : Int) = true then nodesL q d (l ++ [(k : Int)]) else [])) (cut N o (nodesL q (d + 1) l)) q.g.fNodes.length (fun rec => ?_) (fun i hi rec ih => ?_) k 0 (Nat.zero_le _) (by omega)
          · have e0 : cut N o ((List.range 0).flatMap fun (k : Nat) => if okN q l (k : Int) = true then nodesL q d (l ++ [(k : Int)]) else []) = o := cut_nil ho
            rw [e0] at h5
            exact h5
          · rw [ref17_search_nodes.b0]; dsimp only
            rw [show decide ((q.g.fNodes.length : Int) < (q.g.fNodes.length : Int)) = false by simp, cond_false]
            rfl
          · rw [flat_succ, ← cut_cut] at ih
            generalize hG : cut N o ((List.range i).flatMap fun (k : Nat) => if okN q l (k : Int) = true then nodesL q d (l ++ [(k : Int)]) else []) = G at *
            have hGl : G.length ≤ N := by rw [← hG]; exact cut_len
            have hln := f.ln
            have hpk := c.p_kind (x := (l.length : Int)) (by omega) (by omega)
            have hgk := c.g_kind (x := (i : Int)) (by omega) (by omega)
            have hB := Below1_eq (t := t) (n := q.ns.length) (by rw [f.ns]; exact c.wf) hpk.1 100 k (rd q.g.fNodes (i : Int)) (by omega) (by omega) (by have := c.few; omega) hgk.2
            rw [f.ns] at hB
            have hB' : ref04_Below1 k t (rd q.g.fNodes (i : Int)) (rd q.p.fNodes (l.length : Int)) = some (isB q.ns (rd q.g.fNodes (i : Int)) (rd q.p.fNodes (l.length : Int))) := hB
            rw [ref17_search_nodes.b0]; unfold jn; dsimp only
            rw [show decide ((i : Int) < (q.g.fNodes.length : Int)) = true by simp [hi], cond_true, gd (show (0 : Int) ≤ (l.length : Int) ∧ (l.length : Int) < (part.fNodes.length : Int) by omega), gd (show (0 : Int) ≤ (l.length : Int) ∧ (l.length : Int) < (part.fNodes.length : Int) by omega), f.pn l.length (by omega), used_eq (by omega) (by omega), Option.bind_some,
              gd (show (0 : Int) ≤ (i : Int) ∧ (i : Int) < (q.g.fNodes.length : Int) by omega), gd (show (0 : Int) ≤ (l.length : Int) ∧ (l.length : Int) < (q.p.fNodes.length : Int) by omega), hB', Option.bind_some]
            have key : ∀ A B : Option (List Morphism), (bif decide (q.pn (l.length : Int) ≥ 0) then (bif q.pn (l.length : Int) != (i : Int) then (bif true then A else B) else (bif q.inj && decide ((i : Int) ∈ l) then (bif true then A else B) else (bif !isB q.ns (rd q.g.fNodes (i : Int)) (rd q.p.fNodes (l.length : Int)) then A else B)))
                else (bif q.inj && decide ((i : Int) ∈ l) then (bif true then A else B) else (bif !isB q.ns (rd q.g.fNodes (i : Int)) (rd q.p.fNodes (l.length : Int)) then A else B))) = bif okN q l (i : Int) then B else A := fun A B => by
              unfold okN bne
              cases decide (q.pn (l.length : Int) ≥ 0) <;> cases (q.pn (l.length : Int) == (i : Int)) <;> cases (q.inj && decide ((i : Int) ∈ l)) <;> cases isB q.ns (rd q.g.fNodes (i : Int)) (rd q.p.fNodes (l.length : Int)) <;> rfl
            rw [key]
            cases hz : okN q l (i : Int) with
            | false =>
              rw [cond_false, gd (inR_nat (n := i) (by omega))]
              rw [if_neg (by rw [hz]; simp), cut_nil hGl] at ih
              exact ih
            | true =>
              rw [if_pos hz] at ih
              rw [cond_true, gd (by simp [lim]; omega), gd (by simp [lim]; omega), ref_nodes c f hN hN0 d k (l ++ [(i : Int)]) G (by simp; omega) (by omega) hGl, Option.bind_some, gd (inR_nat (n := i) (by omega))]
              exact ih
end Go.Proofs.YtelpgjfojhcjcaaGreat
