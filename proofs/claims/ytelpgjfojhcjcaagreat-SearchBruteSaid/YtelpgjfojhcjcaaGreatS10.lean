/- The laws SearchCheck and SearchAll about the pure functions. -/
import Derived.Test.YtelpgjfojhcjcaaGreatS9
namespace Go.Proofs.YtelpgjfojhcjcaaGreat
open Go Go.Abs

theorem nodup_rd {l : List Int} : l.Nodup ↔ ∀ i, i < l.length → ∀ j, j < i → rd l (i : Int) ≠ rd l (j : Int) := by
  rw [List.Nodup, List.pairwise_iff_getElem]
  have e : ∀ i (h : i < l.length), rd l (i : Int) = l[i] := fun i h => by simp [rd, List.getD, List.getElem?_eq_getElem h]
  constructor
  · intro h i hi j hj
    rw [e i hi, e j (by omega)]
    exact fun h2 => h j i (by omega) hi hj h2.symm
  · intro h i j hi hj hij
    have := h j hj i hij
    rw [e i hi, e j hj] at this
    exact fun h2 => this h2.symm
def injS (m : Morphism) (inj : Bool) : Int := bif inj && (!decide m.fNodes.Nodup || !decide m.fEdges.Nodup) then 5 else 0
def matchI (t : Types) (p g : Graph) (m : Morphism) (inj : Bool) : Int := bif matchS t p g m != 0 then matchS t p g m else injS m inj
def checkS (t : Types) (p g : Graph) (m : Morphism) (inj : Bool) : Int := bif givenS t p g != 0 then givenS t p g else matchI t p g m inj
theorem search_Check_eq {k : Nat} (hk : 200 ≤ k) {t : Types} {p g : Graph} (h : Small t p g) (m : Morphism) (inj : Bool) (h1 : m.fNodes.length ≤ 100) (h2 : m.fEdges.length ≤ 100) : search_Check k t p g m inj = some (checkS t p g m inj) := by
  unfold search_Check checkS
  rw [search_valid_eq hk h, Option.bind_some]
  cases hz : (givenS t p g != 0) with
  | true => rfl
  | false =>
    have f := givenS_fine (by simpa using hz)
    rw [cond_false, cond_false, search_shape_eq hk h.t f m h1 h2, Option.bind_some]
    unfold matchI injS jn; dsimp only
    cases (matchS t p g m != 0) with
    | true => rfl
    | false =>
      rw [cond_false, cond_false, search_twice, if_pos (by omega), Option.bind_some, search_twice, if_pos (by omega), Option.bind_some]
      cases inj <;> cases decide m.fNodes.Nodup <;> cases decide m.fEdges.Nodup <;> rfl
/-! ### All: what is found is a match, and in order -/
structure EdgesOk (q : Pb) (l e : List Int) : Prop where
  fit : ∀ i : Nat, i < e.length → 0 ≤ rd e (i : Int) ∧ rd e (i : Int) < (q.g.fEdges.length : Int) ∧ eqE q l (i : Int) (rd e (i : Int)) = true
  inj : q.inj = true → e.Nodup
theorem nodup_snoc {l : List Int} {x : Int} (h : l.Nodup) (hx : x ∉ l) : (l ++ [x]).Nodup := by
  rw [List.nodup_append]
  exact ⟨h, by simp, fun a ha b hb => by rw [List.mem_singleton.1 hb]; exact fun e => hx (e ▸ ha)⟩
theorem edgesL_ok {q : Pb} {l : List Int} : ∀ (d : Nat) (e : List Int) (m : Morphism), m ∈ edgesL q l d e → EdgesOk q l e → m.fNodes = l ∧ EdgesOk q l m.fEdges
  | 0, e, m, h, he => by simp [edgesL] at h; subst h; exact ⟨rfl, he⟩
  | d + 1, e, m, h, he => by
    simp only [edgesL, List.mem_flatMap, List.mem_range] at h
    obtain ⟨k, hk, h⟩ := h
    by_cases ok : okE q l e (k : Int) = true
    · rw [if_pos ok] at h
      simp only [okE, fitE, Bool.and_eq_true] at ok
      refine edgesL_ok d _ m h ⟨fun i hi => ?_, fun hj => ?_⟩
      · rw [List.length_append] at hi
        rcases Nat.lt_or_ge i e.length with hlt | hge
        · rw [rd_append_lt (by omega) (by omega)]; exact he.fit i hlt
        · have hi' : i < e.length + 1 := by simpa using hi
          have e1 : i = e.length := by omega
          subst e1
          rw [rd_append_eq]
          exact ⟨by omega, by omega, ok.1.2⟩
      · refine nodup_snoc (he.inj hj) ?_
        have := ok.2
        rw [hj] at this
        simpa using this
    · rw [if_neg ok] at h; cases h
structure NodesOk (q : Pb) (l : List Int) : Prop where
  fit : ∀ i : Nat, i < l.length → 0 ≤ rd l (i : Int) ∧ rd l (i : Int) < (q.g.fNodes.length : Int) ∧ isB q.ns (rd q.g.fNodes (rd l (i : Int))) (rd q.p.fNodes (i : Int)) = true
  inj : q.inj = true → l.Nodup
theorem nodesL_ok {q : Pb} : ∀ (d : Nat) (l : List Int) (m : Morphism), m ∈ nodesL q d l → NodesOk q l → NodesOk q m.fNodes ∧ EdgesOk q m.fNodes m.fEdges
  | 0, l, m, h, hl => by
    obtain ⟨h1, h2⟩ := edgesL_ok _ _ m h ⟨fun i hi => by simp at hi, fun _ => by simp⟩
    rw [h1]; exact ⟨hl, h2⟩
  | d + 1, l, m, h, hl => by
    simp only [nodesL, List.mem_flatMap, List.mem_range] at h
    obtain ⟨k, hk, h⟩ := h
    by_cases ok : okN q l (k : Int) = true
    · rw [if_pos ok] at h
      simp only [okN, Bool.and_eq_true] at ok
      refine nodesL_ok d _ m h ⟨fun i hi => ?_, fun hj => ?_⟩
      · rw [List.length_append] at hi
        rcases Nat.lt_or_ge i l.length with hlt | hge
        · rw [rd_append_lt (by omega) (by omega)]; exact hl.fit i hlt
        · have hi' : i < l.length + 1 := by simpa using hi
          have e1 : i = l.length := by omega
          subst e1
          rw [rd_append_eq]
          exact ⟨by omega, by omega, ok.2.1⟩
      · refine nodup_snoc (hl.inj hj) ?_
        have := ok.2.2
        rw [hj] at this
        simpa using this
    · rw [if_neg ok] at h; cases h
def pbA (t : Types) (p g : Graph) (inj : Bool) : Pb := ⟨p, g, t.fNodes, fun _ => -1, fun _ => -1, inj⟩
def fullL (t : Types) (p g : Graph) (inj : Bool) : List Morphism := nodesL (pbA t p g inj) p.fNodes.length []
theorem full_check {t : Types} {p g : Graph} (hz : givenS t p g = 0) {inj : Bool} {m : Morphism} (hm : m ∈ fullL t p g inj) : checkS t p g m inj = 0 := by
  have hlen := nodesL_len _ _ m hm
  obtain ⟨hn, he⟩ := nodesL_ok _ _ m hm ⟨fun i hi => by simp at hi, fun _ => by simp⟩
  have l1 : m.fNodes.length = p.fNodes.length := by simpa using hlen.1
  have l2 : m.fEdges.length = p.fEdges.length := hlen.2
  have hnode : ∀ i, i < m.fNodes.length → nodeM t p g m i = 0 := fun i hi => by
    have := hn.fit i hi
    have h3 : isB t.fNodes (rd g.fNodes (rd m.fNodes (i : Int))) (rd p.fNodes (i : Int)) = true := this.2.2
    have h4 : rd m.fNodes (i : Int) < (g.fNodes.length : Int) := this.2.1
    unfold nodeM
    rw [decide_eq_false (show ¬ rd m.fNodes (i : Int) < 0 by omega), decide_eq_false (show ¬ rd m.fNodes (i : Int) ≥ (g.fNodes.length : Int) by omega), h3]; rfl
  have hedge : ∀ i, i < m.fEdges.length → edgeM p g m i = 0 := fun i hi => by
    have := he.fit i hi
    have h3 : eqE (pbA t p g inj) m.fNodes (i : Int) (rd m.fEdges (i : Int)) = true := this.2.2
    have h4 : rd m.fEdges (i : Int) < (g.fEdges.length : Int) := this.2.1
    simp only [eqE, pbA, Bool.and_eq_true, beq_iff_eq] at h3
    unfold edgeM
    rw [decide_eq_false (show ¬ rd m.fEdges (i : Int) < 0 by omega), decide_eq_false (show ¬ rd m.fEdges (i : Int) ≥ (g.fEdges.length : Int) by omega), h3.1, ← h3.2.1, ← h3.2.2]
    simp
  have hs : ∀ {e : Nat → Int} {n : Nat}, (∀ j, j < n → e j = 0) → ∀ i, i ≤ n → scan e i n = 0 := by
    intro e n h i
    induction hd : n - i generalizing i with
    | zero => intro hi; have : i = n := by omega
              subst this; exact scan_end
    | succ d ih => intro hi; rw [scan_step (by omega), h i (by omega), bne_self_eq_false, cond_false]; exact ih (i + 1) (by omega) (by omega)
  have hmS : matchS t p g m = 0 := by
    unfold matchS match2
    rw [hs hnode 0 (Nat.zero_le _), hs hedge 0 (Nat.zero_le _), l1, l2]
    simp
  unfold checkS matchI injS
  rw [hz, hmS]
  cases hi : inj with
  | false => rfl
  | true =>
    rw [decide_eq_true (hn.inj hi), decide_eq_true (he.inj hi)]; rfl

def LexLt (a b : List Int) : Prop := ∃ c x y r s, a = c ++ x :: r ∧ b = c ++ y :: s ∧ x < y
def Asc (m n : Morphism) : Prop := LexLt m.fNodes n.fNodes ∨ (m.fNodes = n.fNodes ∧ LexLt m.fEdges n.fEdges)
theorem edgesL_pre {q : Pb} {l : List Int} : ∀ (d : Nat) (e : List Int) (m : Morphism), m ∈ edgesL q l d e → m.fNodes = l ∧ ∃ s, m.fEdges = e ++ s
  | 0, e, m, h => by simp [edgesL] at h; subst h; exact ⟨rfl, [], by simp⟩
  | d + 1, e, m, h => by
    simp only [edgesL, List.mem_flatMap, List.mem_range] at h
    obtain ⟨k, hk, h⟩ := h
    by_cases ok : okE q l e (k : Int) = true
    · rw [if_pos ok] at h
      obtain ⟨h1, s, h2⟩ := edgesL_pre d _ m h
      exact ⟨h1, (k : Int) :: s, by rw [h2]; simp⟩
    · rw [if_neg ok] at h; cases h
theorem edgesL_asc {q : Pb} {l : List Int} : ∀ (d : Nat) (e : List Int), (edgesL q l d e).Pairwise Asc
  | 0, e => by simp [edgesL]
  | d + 1, e => by
    simp only [edgesL, List.pairwise_flatMap]
    refine ⟨fun k _ => ?_, List.pairwise_lt_range.imp fun {a b} hab x hx y hy => ?_⟩
    · by_cases ok : okE q l e (k : Int) = true
      · rw [if_pos ok]; exact edgesL_asc d _
      · rw [if_neg ok]; exact List.Pairwise.nil
    · by_cases ok : okE q l e (a : Int) = true
      · rw [if_pos ok] at hx
        by_cases ok2 : okE q l e (b : Int) = true
        · rw [if_pos ok2] at hy
          obtain ⟨h1, s, h2⟩ := edgesL_pre d _ x hx
          obtain ⟨h3, u, h4⟩ := edgesL_pre d _ y hy
          exact .inr ⟨by rw [h1, h3], e, (a : Int), (b : Int), s, u, by rw [h2]; simp, by rw [h4]; simp, by omega⟩
        · rw [if_neg ok2] at hy; cases hy
      · rw [if_neg ok] at hx; cases hx
theorem nodesL_asc {q : Pb} : ∀ (d : Nat) (l : List Int), (nodesL q d l).Pairwise Asc
  | 0, l => edgesL_asc _ _
  | d + 1, l => by
    simp only [nodesL, List.pairwise_flatMap]
    refine ⟨fun k _ => ?_, List.pairwise_lt_range.imp fun {a b} hab x hx y hy => ?_⟩
    · by_cases ok : okN q l (k : Int) = true
      · rw [if_pos ok]; exact nodesL_asc d _
      · rw [if_neg ok]; exact List.Pairwise.nil
    · by_cases ok : okN q l (a : Int) = true
      · rw [if_pos ok] at hx
        by_cases ok2 : okN q l (b : Int) = true
        · rw [if_pos ok2] at hy
          obtain ⟨⟨s, h2⟩, _⟩ := nodesL_fit d _ x hx
          obtain ⟨⟨u, h4⟩, _⟩ := nodesL_fit d _ y hy
          exact .inl ⟨l, (a : Int), (b : Int), s, u, by rw [h2]; simp, by rw [h4]; simp, by omega⟩
        · rw [if_neg ok2] at hy; cases hy
      · rw [if_neg ok] at hx; cases hx

theorem allL_full {t : Types} {p g : Graph} {inj : Bool} : allL ⟨p, g, t.fNodes, fun _ => -1, fun _ => -1, inj⟩ 5001 = (fullL t p g inj).take 5001 := rfl
end Go.Proofs.YtelpgjfojhcjcaaGreat
