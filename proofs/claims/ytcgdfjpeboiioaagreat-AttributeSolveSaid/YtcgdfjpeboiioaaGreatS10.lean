/- The law SearchInstance about the pure functions. -/
import Derived.Test.YtcgdfjpeboiioaaGreatS5
namespace Go.Proofs.YtcgdfjpeboiioaaGreat
open Go Go.Abs

/-- The pattern with the types of the images. -/
structure InstP (p g : Graph) (m : Morphism) (r : Graph × Int) : Prop where
  ok : r.2 = 0
  edges : r.1.fEdges = p.fEdges
  len : r.1.fNodes.length = m.fNodes.length
  at' : ∀ j : Nat, j < m.fNodes.length → rd r.1.fNodes (j : Int) = rd g.fNodes (rd m.fNodes (j : Int))
theorem nodeM_in {t : Types} {p g : Graph} {m : Morphism} {i : Nat} (h : nodeM t p g m i = 0) : 0 ≤ rd m.fNodes (i : Int) ∧ rd m.fNodes (i : Int) < (g.fNodes.length : Int) := by
  unfold nodeM at h
  cases hb : decide (rd m.fNodes (i : Int) < 0) || decide (rd m.fNodes (i : Int) ≥ (g.fNodes.length : Int)) with
  | true => rw [hb] at h; cases h
  | false => simp only [Bool.or_eq_false_iff, decide_eq_false_iff_not] at hb; omega
theorem matchS_zero {t : Types} {p g : Graph} {m : Morphism} (h : matchS t p g m = 0) :
    m.fNodes.length = p.fNodes.length ∧ m.fEdges.length = p.fEdges.length ∧ (∀ i, i < m.fNodes.length → nodeM t p g m i = 0) ∧ (∀ i, i < m.fEdges.length → edgeM p g m i = 0) := by
  unfold matchS match2 at h
  cases hb : ((m.fNodes.length : Int) != (p.fNodes.length : Int)) || ((m.fEdges.length : Int) != (p.fEdges.length : Int)) with
  | true => rw [hb] at h; cases h
  | false =>
    rw [hb, cond_false] at h
    simp only [Bool.or_eq_false_iff, bne_eq_false_iff_eq] at hb
    cases hz : (scan (nodeM t p g m) 0 m.fNodes.length != 0) with
    | true => rw [hz, cond_true] at h; rw [h] at hz; cases hz
    | false =>
      rw [hz, cond_false] at h
      exact ⟨by omega, by omega, fun i hi => scan_zero (by simpa using hz) i (Nat.zero_le _) hi, fun i hi => scan_zero h i (Nat.zero_le _) hi⟩
end Go.Proofs.YtcgdfjpeboiioaaGreat

namespace Go.Proofs.YtcgdfjpeboiioaaGreat
open Go Go.Abs

/-- A problem: pattern, graph, node types, given images (-1: none), injective or not. -/
structure Pb where
  p : Graph
  g : Graph
  ns : List NodeType
  pn : Int → Int
  pe : Int → Int
  inj : Bool
def eqE (q : Pb) (l : List Int) (i k : Int) : Bool :=
  ((rd q.p.fEdges i).fType == (rd q.g.fEdges k).fType) && (((rd q.g.fEdges k).fFrom == rd l (rd q.p.fEdges i).fFrom) && ((rd q.g.fEdges k).fTo == rd l (rd q.p.fEdges i).fTo))
def cut (N : Nat) (o L : List Morphism) : List Morphism := (o ++ L).take N
/-! ### A pruned branch holds nothing -/
/-! ### Loops that carry what is found -/
/-! ### The program's way -/
def pO (o : Option (List Int)) (i : Int) : Int := match o with
  | none => -1
  | some l => rd l i
/-- What a search is about; the sizes are those of a light case. -/
structure Ctx (q : Pb) : Prop where
  gp : GoodG q.p
  gg : GoodG q.g
  tp : ∀ j : Nat, j < q.p.fNodes.length → rd q.p.fNodes (j : Int) < (q.ns.length : Int)
  tg : ∀ j : Nat, j < q.g.fNodes.length → rd q.g.fNodes (j : Int) < (q.ns.length : Int)
  wf : WfP q.ns q.ns.length
  few : q.ns.length ≤ 50
structure FinP (q : Pb) (M : List (List Bool)) (part : OMorphism) : Prop where
  tab : Table q.ns M q.ns.length
  pn : ∀ i : Nat, i < q.p.fNodes.length → pO part.fNodes (i : Int) = q.pn (i : Int) ∧ ∀ l, part.fNodes = some l → (i : Int) < (l.length : Int)
  pe : ∀ i : Nat, i < q.p.fEdges.length → pO part.fEdges (i : Int) = q.pe (i : Int) ∧ ∀ l, part.fEdges = some l → (i : Int) < (l.length : Int)
theorem FinP.table {q : Pb} {M : List (List Bool)} {part : OMorphism} (f : FinP q M part) {a b : Int} (ha : 0 ≤ a ∧ a < (q.ns.length : Int)) (hb : 0 ≤ b ∧ b < (q.ns.length : Int)) :
    a < (M.length : Int) ∧ b < ((rd M a).length : Int) ∧ rd (rd M a) b = isB q.ns b a := by
  have h1 := f.tab.len
  have h2 := f.tab.row a.toNat (by omega)
  have h3 := f.tab.at' a.toNat (by omega) b.toNat (by omega)
  rw [Int.toNat_of_nonneg ha.1] at h2 h3
  rw [Int.toNat_of_nonneg hb.1] at h3
  exact ⟨by omega, by omega, h3⟩

end Go.Proofs.YtcgdfjpeboiioaaGreat

namespace Go.Proofs.YtcgdfjpeboiioaaGreat
open Go Go.Abs

/-! ### The reference's way -/
structure RefP (q : Pb) (t : Types) (part : Morphism) : Prop where
  ns : t.fNodes = q.ns
  ln : part.fNodes.length = q.p.fNodes.length
  le : part.fEdges.length = q.p.fEdges.length
  pn : ∀ i : Nat, i < q.p.fNodes.length → rd part.fNodes (i : Int) = q.pn (i : Int)
  pe : ∀ i : Nat, i < q.p.fEdges.length → rd part.fEdges (i : Int) = q.pe (i : Int)
end Go.Proofs.YtcgdfjpeboiioaaGreat

namespace Go.Proofs.YtcgdfjpeboiioaaGreat
open Go Go.Abs

/-- A match without images. -/
structure AllNeg (p : Graph) (m : Morphism) : Prop where
  ln : m.fNodes.length = p.fNodes.length
  le : m.fEdges.length = p.fEdges.length
  n : ∀ i : Nat, i < p.fNodes.length → rd m.fNodes (i : Int) = -1
  e : ∀ i : Nat, i < p.fEdges.length → rd m.fEdges (i : Int) = -1
end Go.Proofs.YtcgdfjpeboiioaaGreat

namespace Go.Proofs.YtcgdfjpeboiioaaGreat
open Go Go.Abs

theorem nodup_rd {l : List Int} : l.Nodup ↔ ∀ i, i < l.length → ∀ j, j < i → rd l (i : Int) ≠ rd l (j : Int) := by
  rw [List.Nodup, List.pairwise_iff_getElem]
  have e : ∀ i (h : i < l.length), rd l (i : Int) = l[i] := fun i h => by simp [rd, List.getD, List.getElem?_eq_getElem h]
  constructor
  · intro h i hi j hj
    rw [e i hi, e j (by omega)]
    exact fun h2 => h j i (by omega) hi hj h2.symm
  · intro h i j hi hj hij
    have := h j hj i hij
    rw [e i hi, e j hj] at this
    exact fun h2 => this h2.symm
theorem distinct_eq {k : Nat} {l : List Int} (hk : l.length < k) (hl : l.length ≤ 1000) : ref17_distinct k l = some (decide l.Nodup) := by
  have h : ref17_distinct k l = some (!anyN (fun i => anyN (fun j => rd l (i : Int) == rd l (j : Int)) 0 i) 0 l.length) := by
    refine loop1_eq (fun i => !anyN (fun i => anyN (fun j => rd l (i : Int) == rd l (j : Int)) 0 i) i l.length) l.length (fun rec => ?_) (fun i hi rec ih => ?_) (Nat.zero_le _) (by omega)
    · rw [ref17_distinct.b0, decide_eq_false (show ¬ (l.length : Int) < (l.length : Int) by omega), cond_false, anyN_end]; rfl
    · rw [anyN_step hi, ref17_distinct.b0, decide_eq_true (show (i : Int) < (l.length : Int) by omega), cond_true]
      have h5 : loop1 k (ref17_distinct.b1 l (i : Int) rec) ((0 : Nat) : Int) = some (bif anyN (fun j => rd l (i : Int) == rd l (j : Int)) 0 i then false else !anyN (fun i => anyN (fun j => rd l (i : Int) == rd l (j : Int)) 0 i) (i + 1) l.length) := by
        refine loop1_eq (fun j => bif anyN (fun j => rd l (i : Int) == rd l (j : Int)) j i then false else !anyN (fun i => anyN (fun j => rd l (i : Int) == rd l (j : Int)) 0 i) (i + 1) l.length) i (fun rec1 => ?_) (fun j hj rec1 ih1 => ?_) (Nat.zero_le _) (by omega)
        · rw [ref17_distinct.b1, decide_eq_false (show ¬ (i : Int) < (i : Int) by omega), cond_false, gd (inR_nat (n := i) (by omega)), ih, anyN_end, cond_false]
        · rw [anyN_step hj, ref17_distinct.b1, decide_eq_true (show (j : Int) < (i : Int) by omega), cond_true, gd (by omega), gd (by omega), gd (inR_nat (n := j) (by omega)), ih1]
          cases (rd l (i : Int) == rd l (j : Int)) <;> rfl
      have h6 : loop1 k (ref17_distinct.b1 l (i : Int) rec) 0 = _ := h5
      rw [h6]
      cases anyN (fun j => rd l (i : Int) == rd l (j : Int)) 0 i <;> rfl
  rw [h]
  congr 1
  rw [Bool.eq_iff_iff, decide_eq_true_eq, nodup_rd, Bool.not_eq_true']
  constructor
  · intro h i hi j hj e
    have := anyN_false (anyN_false h i (Nat.zero_le _) hi) j (Nat.zero_le _) hj
    simp [e] at this
  · intro h
    refine anyN_none fun i _ hi => anyN_none fun j _ hj => ?_
    have := h i hi j hj
    simpa using this

def injS (m : Morphism) (inj : Bool) : Int := bif inj && (!decide m.fNodes.Nodup || !decide m.fEdges.Nodup) then 5 else 0
def matchI (t : Types) (p g : Graph) (m : Morphism) (inj : Bool) : Int := bif matchS t p g m != 0 then matchS t p g m else injS m inj
theorem match_inj_eq {k : Nat} (hk : 200 ≤ k) {t : Types} {p g : Graph} (f : Fine t p g) (m : Morphism) (inj : Bool) (h1 : m.fNodes.length ≤ 100) (h2 : m.fEdges.length ≤ 100) : ref17_match k t p g m inj = some (matchI t p g m inj) := by
  have w := valid_wf f.ok
  unfold ref17_match matchI matchS jn; dsimp only
  cases hl1 : ((m.fNodes.length : Int) != (p.fNodes.length : Int)) with
  | true => rfl
  | false =>
    cases hl2 : ((m.fEdges.length : Int) != (p.fEdges.length : Int)) with
    | true => rfl
    | false =>
      have l1 : (m.fNodes.length : Int) = (p.fNodes.length : Int) := by simpa using hl1
      have l2 : (m.fEdges.length : Int) = (p.fEdges.length : Int) := by simpa using hl2
      rw [cond_false, cond_false, Bool.or_false, cond_false]
      refine loop1_eq (fun i => bif match2 t p g m i != 0 then match2 t p g m i else injS m inj) m.fNodes.length (fun rec => ?_) (fun i hi rec ih => ?_) (Nat.zero_le _) (by omega)
      · rw [ref17_match.b0, show decide ((m.fNodes.length : Int) < (m.fNodes.length : Int)) = false by simp, cond_false, match2_end]
        refine loop1_eq (fun i => bif scan (edgeM p g m) i m.fEdges.length != 0 then scan (edgeM p g m) i m.fEdges.length else injS m inj) m.fEdges.length (fun rec => ?_) (fun i hi rec ih => ?_) (Nat.zero_le _) (by omega)
        · rw [ref17_match.b1, show decide ((m.fEdges.length : Int) < (m.fEdges.length : Int)) = false by simp, cond_false, scan_end]
          unfold jn; dsimp only
          rw [distinct_eq (by omega) (by omega), Option.bind_some, distinct_eq (by omega) (by omega), Option.bind_some]
          unfold injS
          cases inj <;> cases decide m.fNodes.Nodup <;> cases decide m.fEdges.Nodup <;> rfl
        · rw [scan_step hi, ref17_match.b1, show decide ((i : Int) < (m.fEdges.length : Int)) = true by simp [hi], cond_true, edgeM]
          unfold jn; dsimp only
          rw [gd (by omega)]
          have hr := f.gp.right i (by omega)
          by_cases e1 : rd m.fEdges (i : Int) < 0
          · rw [decide_eq_true e1]; rfl
          · by_cases e2 : rd m.fEdges (i : Int) ≥ (g.fEdges.length : Int)
            · rw [decide_eq_true e2, decide_eq_false e1, cond_false, gd (by omega)]; rfl
            · rw [decide_eq_false e2, decide_eq_false e1, cond_false, gd (by omega), Bool.or_false, cond_false, cond_false, gd (by omega), gd (by omega), gd (by omega), gd (by omega), gd (inR_nat (n := i) (by omega)), gd (by omega), ih]
              cases ((rd p.fEdges (i : Int)).fType != (rd g.fEdges (rd m.fEdges (i : Int))).fType) <;> cases (rd m.fNodes (rd p.fEdges (i : Int)).fFrom != (rd g.fEdges (rd m.fEdges (i : Int))).fFrom) <;> cases (rd m.fNodes (rd p.fEdges (i : Int)).fTo != (rd g.fEdges (rd m.fEdges (i : Int))).fTo) <;> rfl
      · rw [match2_step hi, ref17_match.b0, show decide ((i : Int) < (m.fNodes.length : Int)) = true by simp [hi], cond_true, nodeM]
        unfold jn; dsimp only
        rw [gd (by omega)]
        by_cases e1 : rd m.fNodes (i : Int) < 0
        · rw [decide_eq_true e1]; rfl
        · by_cases e2 : rd m.fNodes (i : Int) ≥ (g.fNodes.length : Int)
          · rw [decide_eq_true e2, decide_eq_false e1, cond_false, gd (by omega)]; rfl
          · have a1 := f.gp.kind i (by omega)
            have a3 := f.gg.kind (rd m.fNodes (i : Int)).toNat (by omega)
            have a4 := typedB_node f.tg (j := (rd m.fNodes (i : Int)).toNat) (by omega)
            rw [Int.toNat_of_nonneg (by omega)] at a3 a4
            rw [decide_eq_false e2, decide_eq_false e1, cond_false, gd (by omega), Bool.or_false, cond_false, cond_false, gd (by omega), gd (by omega), gd (by omega), ref04_Below1_eq hk w.1 (by omega) a3.1 a4 a1.1, Option.bind_some, gd (inR_nat (n := i) (by omega)), ih]
            cases isB t.fNodes (rd g.fNodes (rd m.fNodes (i : Int))) (rd p.fNodes (i : Int)) <;> rfl
def checkS (t : Types) (p g : Graph) (m : Morphism) (inj : Bool) : Int := bif givenS t p g != 0 then givenS t p g else matchI t p g m inj
theorem search_Check_eq {k : Nat} (hk : 200 ≤ k) {t : Types} {p g : Graph} (h : Small t p g) (m : Morphism) (inj : Bool) (h1 : m.fNodes.length ≤ 100) (h2 : m.fEdges.length ≤ 100) : search_Check k t p g m inj = some (checkS t p g m inj) := by
  unfold search_Check checkS
  rw [search_valid_eq hk h, Option.bind_some]
  cases hz : (givenS t p g != 0) with
  | true => rfl
  | false =>
    have f := givenS_fine (by simpa using hz)
    rw [cond_false, cond_false, search_shape_eq hk h.t f m h1 h2, Option.bind_some]
    unfold matchI injS jn; dsimp only
    cases (matchS t p g m != 0) with
    | true => rfl
    | false =>
      rw [cond_false, cond_false, search_twice, if_pos (by omega), Option.bind_some, search_twice, if_pos (by omega), Option.bind_some]
      cases inj <;> cases decide m.fNodes.Nodup <;> cases decide m.fEdges.Nodup <;> rfl
theorem ref_Check_eq {k : Nat} (hk : 200 ≤ k) {t : Types} {p g : Graph} (h : Small t p g) (m : Morphism) (inj : Bool) (h1 : m.fNodes.length ≤ 100) (h2 : m.fEdges.length ≤ 100) : ref17_Check k t p g m inj = some (checkS t p g m inj) := by
  unfold ref17_Check checkS
  rw [ref17_given_eq hk h, Option.bind_some]
  cases hz : (givenS t p g != 0) with
  | true => rfl
  | false =>
    have f := givenS_fine (by simpa using hz)
    rw [cond_false, cond_false, match_inj_eq hk f m inj h1 h2, Option.bind_some]
/-! ### All: what is found is a match, and in order -/
structure EdgesOk (q : Pb) (l e : List Int) : Prop where
  fit : ∀ i : Nat, i < e.length → 0 ≤ rd e (i : Int) ∧ rd e (i : Int) < (q.g.fEdges.length : Int) ∧ eqE q l (i : Int) (rd e (i : Int)) = true
  inj : q.inj = true → e.Nodup
structure NodesOk (q : Pb) (l : List Int) : Prop where
  fit : ∀ i : Nat, i < l.length → 0 ≤ rd l (i : Int) ∧ rd l (i : Int) < (q.g.fNodes.length : Int) ∧ isB q.ns (rd q.g.fNodes (rd l (i : Int))) (rd q.p.fNodes (i : Int)) = true
  inj : q.inj = true → l.Nodup
end Go.Proofs.YtcgdfjpeboiioaaGreat
