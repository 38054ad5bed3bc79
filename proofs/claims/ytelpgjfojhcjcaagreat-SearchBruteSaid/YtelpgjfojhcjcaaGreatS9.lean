/- The laws SearchFirst and SearchExtend about the pure functions. -/
import Derived.Test.YtelpgjfojhcjcaaGreatS8
namespace Go.Proofs.YtelpgjfojhcjcaaGreat
open Go Go.Abs

theorem ctx_of {t : Types} {p g : Graph} (f : Fine t p g) (pn pe : Int → Int) (inj : Bool) : Ctx ⟨p, g, t.fNodes, pn, pe, inj⟩ :=
  ⟨f.gp, f.gg, fun _ hj => typedB_node f.tp hj, fun _ hj => typedB_node f.tg hj, (valid_wf f.ok).1, by have := (valid_wf f.ok).2.1; show t.fNodes.length ≤ 50; omega⟩
theorem edgesL_len {q : Pb} {l : List Int} : ∀ (d : Nat) (e : List Int) (m : Morphism), m ∈ edgesL q l d e → m.fNodes = l ∧ m.fEdges.length = e.length + d
  | 0, e, m, h => by simp [edgesL] at h; subst h; exact ⟨rfl, rfl⟩
  | d + 1, e, m, h => by
    simp only [edgesL, List.mem_flatMap] at h
    obtain ⟨k, _, h⟩ := h
    by_cases ok : okE q l e (k : Int) = true
    · rw [if_pos ok] at h
      obtain ⟨h1, h2⟩ := edgesL_len d _ m h
      exact ⟨h1, by rw [h2]; simp; omega⟩
    · rw [if_neg ok] at h; cases h
theorem nodesL_len {q : Pb} : ∀ (d : Nat) (l : List Int) (m : Morphism), m ∈ nodesL q d l → m.fNodes.length = l.length + d ∧ m.fEdges.length = q.p.fEdges.length
  | 0, l, m, h => by
    obtain ⟨h1, h2⟩ := edgesL_len _ _ m h
    exact ⟨by rw [h1]; rfl, by simpa using h2⟩
  | d + 1, l, m, h => by
    simp only [nodesL, List.mem_flatMap] at h
    obtain ⟨k, _, h⟩ := h
    by_cases ok : okN q l (k : Int) = true
    · rw [if_pos ok] at h
      obtain ⟨h1, h2⟩ := nodesL_len d _ m h
      exact ⟨by rw [h1]; simp; omega, h2⟩
    · rw [if_neg ok] at h; cases h
/-- All matches, up to a number. -/
def allL (q : Pb) (N : Nat) : List Morphism := cut N [] (nodesL q q.p.fNodes.length [])
theorem allL_len {q : Pb} {N : Nat} {m : Morphism} (h : m ∈ allL q N) : m.fNodes.length = q.p.fNodes.length ∧ m.fEdges.length = q.p.fEdges.length := by
  have := nodesL_len _ _ m (List.mem_of_mem_take (by simpa [allL, cut] using h))
  simpa using this
theorem found_eq {k : Nat} (hk : 300 ≤ k) {t : Types} (ht : FewT t) {p g : Graph} (f : Fine t p g) {part : OMorphism} {pn pe : Int → Int} {inj : Bool} {N : Nat} (hN : N ≤ 6000)
    (h1 : ∀ i : Nat, i < p.fNodes.length → pO part.fNodes (i : Int) = pn (i : Int) ∧ ∀ l, part.fNodes = some l → (i : Int) < (l.length : Int))
    (h2 : ∀ i : Nat, i < p.fEdges.length → pO part.fEdges (i : Int) = pe (i : Int) ∧ ∀ l, part.fEdges = some l → (i : Int) < (l.length : Int)) :
    search_found k t p g part inj (N : Int) = some (allL ⟨p, g, t.fNodes, pn, pe, inj⟩ N) := by
  obtain ⟨M, e, hM⟩ := search_below_out (k := k) (by omega) ht f.ok
  have a := f.gp.nodes; have b := f.gp.edges
  unfold search_found
  rw [e, Option.bind_some, find_nodes (q := ⟨p, g, t.fNodes, pn, pe, inj⟩) (ctx_of f pn pe inj) ⟨hM, h1, h2⟩ hN p.fNodes.length k [] [] (by simp) (by dsimp only; omega) (Nat.zero_le _)]
  rfl
/-- A match without images. -/
structure AllNeg (p : Graph) (m : Morphism) : Prop where
  ln : m.fNodes.length = p.fNodes.length
  le : m.fEdges.length = p.fEdges.length
  n : ∀ i : Nat, i < p.fNodes.length → rd m.fNodes (i : Int) = -1
  e : ∀ i : Nat, i < p.fEdges.length → rd m.fEdges (i : Int) = -1
theorem SameInts2_eq {k : Nat} {a : List Int} (hk : a.length < k) (ha : a.length ≤ 1000000) : ref02_SameInts k a a = some true := by
  unfold ref02_SameInts
  rw [show ((a.length : Int) != (a.length : Int)) = false by simp, cond_false]
  refine loop1_eq (fun _ => true) a.length (fun rec => ?_) (fun i hi rec ih => ?_) (Nat.zero_le _) (by omega)
  · rw [ref02_SameInts.b0, show decide ((a.length : Int) < (a.length : Int)) = false by simp, cond_false]
  · rw [ref02_SameInts.b0, show decide ((i : Int) < (a.length : Int)) = true by simp [hi], cond_true, gd (by omega), gd (by omega), bne_self_eq_false, cond_false, gd (inR_nat (n := i) (by omega)), ih]
theorem ref06_Same_eq {k : Nat} {a : Morphism} (hk : 200 ≤ k) (h1 : a.fNodes.length ≤ 100) (h2 : a.fEdges.length ≤ 100) : ref06_Same k a a = some true := by
  unfold ref06_Same jn; dsimp only
  rw [SameInts2_eq (by omega) (by omega), Option.bind_some, cond_true, SameInts2_eq (by omega) (by omega), Option.bind_some]
theorem SameAll_eq {k : Nat} (hk : 200 ≤ k) {l : List Morphism} (hl : l.length < k) (hl2 : l.length ≤ 6000) (h : ∀ m ∈ l, m.fNodes.length ≤ 100 ∧ m.fEdges.length ≤ 100) : ref17_SameAll k l l = some true := by
  unfold ref17_SameAll
  rw [show ((l.length : Int) != (l.length : Int)) = false by simp, cond_false]
  refine loop1_eq (fun _ => true) l.length (fun rec => ?_) (fun i hi rec ih => ?_) (Nat.zero_le _) (by omega)
  · rw [ref17_SameAll.b0, show decide ((l.length : Int) < (l.length : Int)) = false by simp, cond_false]
  · have hm := h _ (rd_mem (l := l) (x := (i : Int)) (by omega) (by omega))
    rw [ref17_SameAll.b0]; unfold jn; dsimp only
    rw [show decide ((i : Int) < (l.length : Int)) = true by simp [hi], cond_true, gd (by omega), gd (by omega), SameInts_eq (by omega) (by omega) rfl (fun _ _ => rfl), Option.bind_some, Bool.not_true, cond_false, gd (by omega), gd (by omega), SameInts_eq (by omega) (by omega) rfl (fun _ _ => rfl), Option.bind_some, Bool.not_true, cond_false, gd (inR_nat (n := i) (by omega)), ih]

def rangeS (l : List Int) (n : Int) : Int := bif anyN (fun j => decide (rd l (j : Int) < -1) || decide (rd l (j : Int) ≥ n)) 0 l.length then 6 else 0
end Go.Proofs.YtelpgjfojhcjcaaGreat
