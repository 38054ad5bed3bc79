/- The search, gone on: nodes; the reference's way. -/
import Derived.Test.YtelpgjfojhcjcaaGreatS7
namespace Go.Proofs.YtelpgjfojhcjcaaGreat
open Go Go.Abs

theorem find_nodes {q : Pb} (c : Ctx q) {M : List (List Bool)} {part : OMorphism} (f : FinP q M part) {N : Nat} (hN : N ≤ 6000) :
    ∀ (d k : Nat) (l : List Int) (o : List Morphism), l.length + d = q.p.fNodes.length → 152 + q.p.fEdges.length + d ≤ k → o.length ≤ N → search_finder_find k (Finder.mk q.p q.g M part q.inj (N : Int) l [] o) = some (l, [], cut N o (nodesL q d l))
  | 0, k, l, o, hl, hk, ho => find_edges c f hN (by omega) q.p.fEdges.length k [] o (by simp) (by omega) ho
  | d + 1, 0, _, _, _, h, _ => by omega
  | d + 1, k + 1, l, o, hl, hk, ho => by
    have hpn := c.gp.nodes; have hpe := c.gp.edges; have hge := c.gg.edges; have hgn := c.gg.nodes
    unfold search_finder_find search_finder_find.main jn; dsimp only
    cases hb : ((o.length : Int) == (N : Int)) with
    | true =>
      have : (o.length : Int) = (N : Int) := by simpa using hb
      rw [cond_true, cut_full (by omega)]
    | false =>
      have hne : (o.length : Int) ≠ (N : Int) := by simpa using hb
      rw [cond_false, decide_eq_true (show (l.length : Int) < (q.p.fNodes.length : Int) by omega), cond_true]
      have h5 := loop4_eq (b := search_finder_find.b0 k (search_finder_find k) (Finder.mk q.p q.g M part q.inj (N : Int) l [] o) (fun y9 y10 y11 => some (y9, y10, y11))) (l := l) (e := [])
        (fun i => cut N o ((List.range i).flatMap fun (k : Nat) => if okN q l (k : Int) = true then nodesL q d (l ++ [(k : Int)]) else [])) (l, [], cut N o (nodesL q (d + 1) l)) q.g.fNodes.length (fun rec => ?_) (fun i hi rec ih => ?_) k 0 (Nat.zero_le _) (by omega)
      · have e0 : cut N o ((List.range 0).flatMap fun (k : Nat) => if okN q l (k : Int) = true then nodesL q d (l ++ [(k : Int)]) else []) = o := cut_nil ho
        rw [e0] at h5
        exact h5
      · rw [search_finder_find.b0]; dsimp only
        rw [show decide ((q.g.fNodes.length : Int) < (q.g.fNodes.length : Int)) = false by simp, cond_false]
        rfl
      · rw [flat_succ, ← cut_cut] at ih
        generalize hG : cut N o ((List.range i).flatMap fun (k : Nat) => if okN q l (k : Int) = true then nodesL q d (l ++ [(k : Int)]) else []) = G at *
        have hGl : G.length ≤ N := by rw [← hG]; exact cut_len
        have hpk := c.p_kind (x := (l.length : Int)) (by omega) (by omega)
        have hgk := c.g_kind (x := (i : Int)) (by omega) (by omega)
        obtain ⟨ht1, ht2, ht3⟩ := f.table hpk hgk
        rw [search_finder_find.b0]; unfold jn; dsimp only
        rw [show decide ((i : Int) < (q.g.fNodes.length : Int)) = true by simp [hi], cond_true, gd (by omega), search_given_eq (by omega) (f.pn l.length (by omega)).2, Option.bind_some, (f.pn l.length (by omega)).1, Contains_int _ _ (by omega) (by omega), anyN_mem,
          gd (show (0 : Int) ≤ (l.length : Int) ∧ (l.length : Int) < (q.p.fNodes.length : Int) by omega), gd (show 0 ≤ rd q.p.fNodes (l.length : Int) ∧ rd q.p.fNodes (l.length : Int) < (M.length : Int) from ⟨hpk.1, ht1⟩),
          gd (show 0 ≤ rd q.g.fNodes (i : Int) ∧ rd q.g.fNodes (i : Int) < ((rd M (rd q.p.fNodes (l.length : Int))).length : Int) from ⟨hgk.1, ht2⟩), ht3]
        have key : ∀ A B : Option (List Int × List Int × List Morphism), (bif decide (q.pn (l.length : Int) ≥ 0) then (bif q.pn (l.length : Int) != (i : Int) then (bif true then A else B) else (bif !isB q.ns (rd q.g.fNodes (i : Int)) (rd q.p.fNodes (l.length : Int)) then (bif true then A else B) else (bif q.inj then ((some (decide ((i : Int) ∈ l))).bind fun t => (bif t then A else B)) else (bif false then A else B))))
            else (bif !isB q.ns (rd q.g.fNodes (i : Int)) (rd q.p.fNodes (l.length : Int)) then (bif true then A else B) else (bif q.inj then ((some (decide ((i : Int) ∈ l))).bind fun t => (bif t then A else B)) else (bif false then A else B)))) = bif okN q l (i : Int) then B else A := fun A B => by
          unfold okN
          cases decide (q.pn (l.length : Int) ≥ 0) <;> cases (q.pn (l.length : Int) != (i : Int)) <;> cases isB q.ns (rd q.g.fNodes (i : Int)) (rd q.p.fNodes (l.length : Int)) <;> cases q.inj <;> cases decide ((i : Int) ∈ l) <;> rfl
        rw [key]
        cases hz : okN q l (i : Int) with
        | false =>
          rw [cond_false, gd (inR_nat (n := i) (by omega))]
          rw [if_neg (by rw [hz]; simp), cut_nil hGl] at ih
          exact ih
        | true =>
          have htk : (l ++ [(i : Int)]).take ((l.length : Int)).toNat = l := by simp
          have hle : (0 : Int) ≤ (l.length : Int) ∧ (l.length : Int) ≤ ((l ++ [(i : Int)]).length : Int) := by rw [List.length_append]; simp; omega
          rw [cond_true, gd (by simp [lim]; omega), possible_eq (by omega) c f (by simp; omega), Option.bind_some]
          rw [if_pos hz] at ih
          cases hp : anyN (badP q (l ++ [(i : Int)])) 0 q.p.fEdges.length with
          | true =>
            rw [Bool.not_true, cond_false, gd hle, gd (inR_nat (n := i) (by omega)), htk]
            rw [badP_none c hp, cut_nil hGl] at ih
            exact ih
          | false =>
            rw [Bool.not_false, cond_true, find_nodes c f hN d k (l ++ [(i : Int)]) G (by simp; omega) (by omega) hGl, Option.bind_some, gd hle, gd (inR_nat (n := i) (by omega)), htk]
            exact ih

/-! ### The reference's way -/
def badR (q : Pb) (l : List Int) (i : Nat) : Bool :=
  !(decide ((rd q.p.fEdges (i : Int)).fFrom ≥ (l.length : Int)) || decide ((rd q.p.fEdges (i : Int)).fTo ≥ (l.length : Int))) && !anyN (fun j => eqE q l (i : Int) (j : Int)) 0 q.g.fEdges.length
theorem badR_none {q : Pb} (c : Ctx q) {d : Nat} {l : List Int} (h : anyN (badR q l) 0 q.p.fEdges.length = true) : nodesL q d l = [] := by
  obtain ⟨i, _, hi, hb⟩ := anyN_iff.1 h
  have hr := c.gp.right i hi
  simp only [badR, Bool.and_eq_true, Bool.not_eq_true', Bool.or_eq_false_iff, decide_eq_false_iff_not] at hb
  obtain ⟨hm, hf⟩ := hb
  exact nodesL_none hi ⟨hr.2.1.1, by omega⟩ ⟨hr.2.2.1, by omega⟩ fun k hk => by
    have := anyN_false hf k (Nat.zero_le _) hk
    unfold fitE; rw [this, Bool.and_false]

structure RefP (q : Pb) (t : Types) (part : Morphism) : Prop where
  ns : t.fNodes = q.ns
  ln : part.fNodes.length = q.p.fNodes.length
  le : part.fEdges.length = q.p.fEdges.length
  pn : ∀ i : Nat, i < q.p.fNodes.length → rd part.fNodes (i : Int) = q.pn (i : Int)
  pe : ∀ i : Nat, i < q.p.fEdges.length → rd part.fEdges (i : Int) = q.pe (i : Int)
end Go.Proofs.YtelpgjfojhcjcaaGreat
