/- The laws SearchCheck and SearchAll about the pure functions. -/
import Derived.Test.YtelpgjfojhcjcaaGreatS9
namespace Go.Proofs.YtelpgjfojhcjcaaGreat
open Go Go.Abs

theorem nodup_rd {l : List Int} : l.Nodup ↔ ∀ i, i < l.length → ∀ j, j < i → rd l (i : Int) ≠ rd l (j : Int) := by
  rw [List.Nodup, List.pairwise_iff_getElem]
  have e : ∀ i (h : i < l.length), rd l (i : Int) = l[i] := fun i h => by simp [rd, List.getD, List.getElem?_eq_getElem h]
  constructor
  · intro h i hi j hj
    rw [e i hi, e j (by omega)]
    exact fun h2 => h j i (by omega) hi hj h2.symm
  · intro h i j hi hj hij
    have := h j hj i hij
    rw [e i hi, e j hj] at this
    exact fun h2 => this h2.symm
theorem distinct_eq {k : Nat} {l : List Int} (hk : l.length < k) (hl : l.length ≤ 1000) : ref17_distinct k l = some (decide l.Nodup) := by
  have h : ref17_distinct k l = some (!anyN (fun i => anyN (fun j => rd l (i : Int) == rd l (j : Int)) 0 i) 0 l.length) := by
    refine loop1_eq (fun i => !anyN (fun i => anyN (fun j => rd l (i : Int) == rd l (j : Int)) 0 i) i l.length) l.length (fun rec => ?_) (fun i hi rec ih => ?_) (Nat.zero_le _) (by omega)
    · rw [ref17_distinct.b0, decide_eq_false (show ¬ (l.length : Int) < (l.length : Int) by omega), cond_false, anyN_end]; rfl
    · rw [anyN_step hi, ref17_distinct.b0, decide_eq_true (show (i : Int) < (l.length : Int) by omega), cond_true]
      have h5 : loop1 k (ref17_distinct.b1 l (i : Int) rec) ((0 : Nat) : Int) = some (bif anyN (fun j => rd l (i : Int) == rd l (j : Int)) 0 i then false else !anyN (fun i => anyN (fun j => rd l (i : Int) == rd l (j : Int)) 0 i) (i + 1) l.length) := by
        refine loop1_eq (fun j => bif anyN (fun j => rd l (i : Int) == rd l (j : Int)) j i then false else !anyN (fun i => anyN (fun j => rd l (i : Int) == rd l (j : Int)) 0 i) (i + 1) l.length) i (fun rec1 => ?_) (fun j hj rec1 ih1 => ?_) (Nat.zero_le _) (by omega)
        · rw [ref17_distinct.b1, decide_eq_false (show ¬ (i : Int) < (i : Int) by omega), cond_false, gd (inR_nat (n := i) (by omega)), ih, anyN_end, cond_false]
        · rw [anyN_step hj, ref17_distinct.b1, decide_eq_true (show (j : Int) < (i : Int) by omega), cond_true, gd (by omega), gd (by omega), gd (inR_nat (n := j) (by omega)), ih1]
          cases (rd l (i : Int) == rd l (j : Int)) <;> rfl
      have h6 : loop1 k (ref17_distinct.b1 l (i : Int) rec) 0 = _ := h5
      rw [h6]
      cases anyN (fun j => rd l (i : Int) == rd l (j : Int)) 0 i <;> rfl
  rw [h]
  congr 1
  rw [Bool.eq_iff_iff, decide_eq_true_eq, nodup_rd, Bool.not_eq_true']
  constructor
  · intro h i hi j hj e
    have := anyN_false (anyN_false h i (Nat.zero_le _) hi) j (Nat.zero_le _) hj
    simp [e] at this
  · intro h
    refine anyN_none fun i _ hi => anyN_none fun j _ hj => ?_
    have := h i hi j hj
    simpa using this

def injS (m : Morphism) (inj : Bool) : Int := bif inj && (!decide m.fNodes.Nodup || !decide m.fEdges.Nodup) then 5 else 0
def matchI (t : Types) (p g : Graph) (m : Morphism) (inj : Bool) : Int := bif matchS t p g m != 0 then matchS t p g m else injS m inj
theorem match_inj_eq {k : Nat} (hk : 200 ≤ k) {t : Types} {p g : Graph} (f : Fine t p g) (m : Morphism) (inj : Bool) (h1 : m.fNodes.length ≤ 100) (h2 : m.fEdges.length ≤ 100) : ref17_match k t p g m inj = some (matchI t p g m inj) := by
  have w := valid_wf f.ok
  unfold ref17_match matchI matchS jn; dsimp only
  cases hl1 : ((m.fNodes.length : Int) != (p.fNodes.length : Int)) with
  | true => rfl
  | false =>
    cases hl2 : ((m.fEdges.length : Int) != (p.fEdges.length : Int)) with
    | true => rfl
    | false =>
      have l1 : (m.fNodes.length : Int) = (p.fNodes.length : Int) := by simpa using hl1
      have l2 : (m.fEdges.length : Int) = (p.fEdges.length : Int) := by simpa using hl2
      rw [cond_false, cond_false, Bool.or_false, cond_false]
      refine loop1_eq (fun i => bif match2 t p g m i != 0 then match2 t p g m i else injS m inj) m.fNodes.length (fun rec => ?_) (fun i hi rec ih => ?_) (Nat.zero_le _) (by omega)
      · rw [ref17_match.b0, show decide ((m.fNodes.length : Int) < (m.fNodes.length : Int)) = false by simp, cond_false, match2_end]
        refine loop1_eq (fun i => bif scan (edgeM p g m) i m.fEdges.length != 0 then scan (edgeM p g m) i m.fEdges.length else injS m inj) m.fEdges.length (fun rec => ?_) (fun i hi rec ih => ?_) (Nat.zero_le _) (by omega)
        · rw [ref17_match.b1, show decide ((m.fEdges.length : Int) < (m.fEdges.length : Int)) = false by simp, cond_false, scan_end]
          unfold jn; dsimp only
          rw [distinct_eq (by omega) (by omega), Option.bind_some, distinct_eq (by omega) (by omega), Option.bind_some]
          unfold injS
          cases inj <;> cases decide m.fNodes.Nodup <;> cases decide m.fEdges.Nodup <;> rfl
        · rw [scan_step hi, ref17_match.b1, show decide ((i : Int) < (m.fEdges.length : Int)) = true by simp [hi], cond_true, edgeM]
          unfold jn; dsimp only
          rw [gd (by omega)]
          have hr := f.gp.right i (by omega)
          by_cases e1 : rd m.fEdges (i : Int) < 0
          · rw [decide_eq_true e1]; rfl
          · by_cases e2 : rd m.fEdges (i : Int) ≥ (g.fEdges.length : Int)
            · rw [decide_eq_true e2, decide_eq_false e1, cond_false, gd (by omega)]; rfl
            · rw [decide_eq_false e2, decide_eq_false e1, cond_false, gd (by omega), Bool.or_false, cond_false, cond_false, gd (by omega), gd (by omega), gd (by omega), gd (by omega), gd (inR_nat (n := i) (by omega)), gd (by omega), ih]
              cases ((rd p.fEdges (i : Int)).fType != (rd g.fEdges (rd m.fEdges (i : Int))).fType) <;> cases (rd m.fNodes (rd p.fEdges (i : Int)).fFrom != (rd g.fEdges (rd m.fEdges (i : Int))).fFrom) <;> cases (rd m.fNodes (rd p.fEdges (i : Int)).fTo != (rd g.fEdges (rd m.fEdges (i : Int))).fTo) <;> rfl
      · rw [match2_step hi, ref17_match.b0, show decide ((i : Int) < (m.fNodes.length : Int)) = true by simp [hi], cond_true, nodeM]
        unfold jn; dsimp only
        rw [gd (by omega)]
        by_cases e1 : rd m.fNodes (i : Int) < 0
        · rw [decide_eq_true e1]; rfl
        · by_cases e2 : rd m.fNodes (i : Int) ≥ (g.fNodes.length : Int)
          · rw [decide_eq_true e2, decide_eq_false e1, cond_false, gd (by omega)]; rfl
          · have a1 := f.gp.kind i (by omega)
            have a3 := f.gg.kind (rd m.fNodes (i : Int)).toNat (by omega)
            have a4 := typedB_node f.tg (j := (rd m.fNodes (i : Int)).toNat) (by omega)
            rw [Int.toNat_of_nonneg (by omega)] at a3 a4
            rw [decide_eq_false e2, decide_eq_false e1, cond_false, gd (by omega), Bool.or_false, cond_false, cond_false, gd (by omega), gd (by omega), gd (by omega), ref04_Below1_eq hk w.1 (by omega) a3.1 a4 a1.1, Option.bind_some, gd (inR_nat (n := i) (by omega)), ih]
            cases isB t.fNodes (rd g.fNodes (rd m.fNodes (i : Int))) (rd p.fNodes (i : Int)) <;> rfl
def checkS (t : Types) (p g : Graph) (m : Morphism) (inj : Bool) : Int := bif givenS t p g != 0 then givenS t p g else matchI t p g m inj
theorem search_Check_eq {k : Nat} (hk : 200 ≤ k) {t : Types} {p g : Graph} (h : Small t p g) (m : Morphism) (inj : Bool) (h1 : m.fNodes.length ≤ 100) (h2 : m.fEdges.length ≤ 100) : search_Check k t p g m inj = some (checkS t p g m inj) := by
  unfold search_Check checkS
  rw [search_valid_eq hk h, Option.bind_some]
  cases hz : (givenS t p g != 0) with
  | true => rfl
  | false =>
    have f := givenS_fine (by simpa using hz)
    rw [cond_false, cond_false, search_shape_eq hk h.t f m h1 h2, Option.bind_some]
    unfold matchI injS jn; dsimp only
    cases (matchS t p g m != 0) with
    | true => rfl
    | false =>
      rw [cond_false, cond_false, search_twice, if_pos (by omega), Option.bind_some, search_twice, if_pos (by omega), Option.bind_some]
      cases inj <;> cases decide m.fNodes.Nodup <;> cases decide m.fEdges.Nodup <;> rfl
theorem ref_Check_eq {k : Nat} (hk : 200 ≤ k) {t : Types} {p g : Graph} (h : Small t p g) (m : Morphism) (inj : Bool) (h1 : m.fNodes.length ≤ 100) (h2 : m.fEdges.length ≤ 100) : ref17_Check k t p g m inj = some (checkS t p g m inj) := by
  unfold ref17_Check checkS
  rw [ref17_given_eq hk h, Option.bind_some]
  cases hz : (givenS t p g != 0) with
  | true => rfl
  | false =>
    have f := givenS_fine (by simpa using hz)
    rw [cond_false, cond_false, match_inj_eq hk f m inj h1 h2, Option.bind_some]
theorem law_check {k : Nat} (hk : 200 ≤ k) (aw : law17_awake k = some true) (c : Case) (m : Morphism) (inj : Bool) (hA : ∀ n ∈ c.fT.fNodes, n.fAttrs.length ≤ 140737488351232) : law17_SearchCheck k c m inj = some true := by
  unfold law17_SearchCheck jn; dsimp only
  rw [aw, Option.bind_some, Bool.not_true, cond_false]
  obtain ⟨b, e, hb⟩ := ref17_Light_out (k := k) (by omega) (p := c.fP) (g := c.fG) hA
  rw [e, Option.bind_some]
  cases b with
  | false => rfl
  | true =>
    have hl := (hb rfl).small
    rw [Bool.not_true, cond_false]
    cases h1 : decide ((m.fNodes.length : Int) > 100) with
    | true => rfl
    | false =>
      cases h2 : decide ((m.fEdges.length : Int) > 100) with
      | true => rfl
      | false =>
        simp at h1 h2
        rw [cond_false, cond_false, search_Check_eq hk hl m inj (by omega) (by omega), Option.bind_some, ref_Check_eq hk hl m inj (by omega) (by omega), Option.bind_some, beq_self_eq_true]

/-! ### All: what is found is a match, and in order -/
structure EdgesOk (q : Pb) (l e : List Int) : Prop where
  fit : ∀ i : Nat, i < e.length → 0 ≤ rd e (i : Int) ∧ rd e (i : Int) < (q.g.fEdges.length : Int) ∧ eqE q l (i : Int) (rd e (i : Int)) = true
  inj : q.inj = true → e.Nodup
theorem nodup_snoc {l : List Int} {x : Int} (h : l.Nodup) (hx : x ∉ l) : (l ++ [x]).Nodup := by
  rw [List.nodup_append]
  exact ⟨h, by simp, fun a ha b hb => by rw [List.mem_singleton.1 hb]; exact fun e => hx (e ▸ ha)⟩
theorem edgesL_ok {q : Pb} {l : List Int} : ∀ (d : Nat) (e : List Int) (m : Morphism), m ∈ edgesL q l d e → EdgesOk q l e → m.fNodes = l ∧ EdgesOk q l m.fEdges
  | 0, e, m, h, he => by simp [edgesL] at h; subst h; exact ⟨rfl, he⟩
  | d + 1, e, m, h, he => by
    simp only [edgesL, List.mem_flatMap, List.mem_range] at h
    obtain ⟨k, hk, h⟩ := h
    by_cases ok : okE q l e (k : Int) = true
    · rw [if_pos ok] at h
      simp only [okE, fitE, Bool.and_eq_true] at ok
      refine edgesL_ok d _ m h ⟨fun i hi => ?_, fun hj => ?_⟩
      · rw [List.length_append] at hi
        rcases Nat.lt_or_ge i e.length with hlt | hge
        · rw [rd_append_lt (by omega) (by omega)]; exact he.fit i hlt
        · have hi' : i < e.length + 1 := by simpa using hi
          have e1 : i = e.length := by omega
          subst e1
          rw [rd_append_eq]
          exact ⟨by omega, by omega, ok.1.2⟩
      · refine nodup_snoc (he.inj hj) ?_
        have := ok.2
        rw [hj] at this
        simpa using this
    · rw [if_neg ok] at h; cases h
structure NodesOk (q : Pb) (l : List Int) : Prop where
  fit : ∀ i : Nat, i < l.length → 0 ≤ rd l (i : Int) ∧ rd l (i : Int) < (q.g.fNodes.length : Int) ∧ isB q.ns (rd q.g.fNodes (rd l (i : Int))) (rd q.p.fNodes (i : Int)) = true
  inj : q.inj = true → l.Nodup
theorem nodesL_ok {q : Pb} : ∀ (d : Nat) (l : List Int) (m : Morphism), m ∈ nodesL q d l → NodesOk q l → NodesOk q m.fNodes ∧ EdgesOk q m.fNodes m.fEdges
  | 0, l, m, h, hl => by
    obtain ⟨h1, h2⟩ := edgesL_ok _ _ m h ⟨fun i hi => by simp at hi, fun _ => by simp⟩
    rw [h1]; exact ⟨hl, h2⟩
  | d + 1, l, m, h, hl => by
    simp only [nodesL, List.mem_flatMap, List.mem_range] at h
    obtain ⟨k, hk, h⟩ := h
    by_cases ok : okN q l (k : Int) = true
    · rw [if_pos ok] at h
      simp only [okN, Bool.and_eq_true] at ok
      refine nodesL_ok d _ m h ⟨fun i hi => ?_, fun hj => ?_⟩
      · rw [List.length_append] at hi
        rcases Nat.lt_or_ge i l.length with hlt | hge
        · rw [rd_append_lt (by omega) (by omega)]; exact hl.fit i hlt
        · have hi' : i < l.length + 1 := by simpa using hi
          have e1 : i = l.length := by omega
          subst e1
          rw [rd_append_eq]
          exact ⟨by omega, by omega, ok.2.1⟩
      · refine nodup_snoc (hl.inj hj) ?_
        have := ok.2.2
        rw [hj] at this
        simpa using this
    · rw [if_neg ok] at h; cases h
def pbA (t : Types) (p g : Graph) (inj : Bool) : Pb := ⟨p, g, t.fNodes, fun _ => -1, fun _ => -1, inj⟩
def fullL (t : Types) (p g : Graph) (inj : Bool) : List Morphism := nodesL (pbA t p g inj) p.fNodes.length []
theorem full_check {t : Types} {p g : Graph} (hz : givenS t p g = 0) {inj : Bool} {m : Morphism} (hm : m ∈ fullL t p g inj) : checkS t p g m inj = 0 := by
  have hlen := nodesL_len _ _ m hm
  obtain ⟨hn, he⟩ := nodesL_ok _ _ m hm ⟨fun i hi => by simp at hi, fun _ => by simp⟩
  have l1 : m.fNodes.length = p.fNodes.length := by simpa using hlen.1
  have l2 : m.fEdges.length = p.fEdges.length := hlen.2
  have hnode : ∀ i, i < m.fNodes.length → nodeM t p g m i = 0 := fun i hi => by
    have := hn.fit i hi
    have h3 : isB t.fNodes (rd g.fNodes (rd m.fNodes (i : Int))) (rd p.fNodes (i : Int)) = true := this.2.2
    have h4 : rd m.fNodes (i : Int) < (g.fNodes.length : Int) := this.2.1
    unfold nodeM
    rw [decide_eq_false (show ¬ rd m.fNodes (i : Int) < 0 by omega), decide_eq_false (show ¬ rd m.fNodes (i : Int) ≥ (g.fNodes.length : Int) by omega), h3]; rfl
  have hedge : ∀ i, i < m.fEdges.length → edgeM p g m i = 0 := fun i hi => by
    have := he.fit i hi
    have h3 : eqE (pbA t p g inj) m.fNodes (i : Int) (rd m.fEdges (i : Int)) = true := this.2.2
    have h4 : rd m.fEdges (i : Int) < (g.fEdges.length : Int) := this.2.1
    simp only [eqE, pbA, Bool.and_eq_true, beq_iff_eq] at h3
    unfold edgeM
    rw [decide_eq_false (show ¬ rd m.fEdges (i : Int) < 0 by omega), decide_eq_false (show ¬ rd m.fEdges (i : Int) ≥ (g.fEdges.length : Int) by omega), h3.1, ← h3.2.1, ← h3.2.2]
    simp
  have hs : ∀ {e : Nat → Int} {n : Nat}, (∀ j, j < n → e j = 0) → ∀ i, i ≤ n → scan e i n = 0 := by
    intro e n h i
    induction hd : n - i generalizing i with
    | zero => intro hi; have : i = n := by omega
              subst this; exact scan_end
    | succ d ih => intro hi; rw [scan_step (by omega), h i (by omega), bne_self_eq_false, cond_false]; exact ih (i + 1) (by omega) (by omega)
  have hmS : matchS t p g m = 0 := by
    unfold matchS match2
    rw [hs hnode 0 (Nat.zero_le _), hs hedge 0 (Nat.zero_le _), l1, l2]
    simp
  unfold checkS matchI injS
  rw [hz, hmS]
  cases hi : inj with
  | false => rfl
  | true =>
    rw [decide_eq_true (hn.inj hi), decide_eq_true (he.inj hi)]; rfl

def LexLt (a b : List Int) : Prop := ∃ c x y r s, a = c ++ x :: r ∧ b = c ++ y :: s ∧ x < y
def Asc (m n : Morphism) : Prop := LexLt m.fNodes n.fNodes ∨ (m.fNodes = n.fNodes ∧ LexLt m.fEdges n.fEdges)
theorem edgesL_pre {q : Pb} {l : List Int} : ∀ (d : Nat) (e : List Int) (m : Morphism), m ∈ edgesL q l d e → m.fNodes = l ∧ ∃ s, m.fEdges = e ++ s
  | 0, e, m, h => by simp [edgesL] at h; subst h; exact ⟨rfl, [], by simp⟩
  | d + 1, e, m, h => by
    simp only [edgesL, List.mem_flatMap, List.mem_range] at h
    obtain ⟨k, hk, h⟩ := h
    by_cases ok : okE q l e (k : Int) = true
    · rw [if_pos ok] at h
      obtain ⟨h1, s, h2⟩ := edgesL_pre d _ m h
      exact ⟨h1, (k : Int) :: s, by rw [h2]; simp⟩
    · rw [if_neg ok] at h; cases h
theorem edgesL_asc {q : Pb} {l : List Int} : ∀ (d : Nat) (e : List Int), (edgesL q l d e).Pairwise Asc
  | 0, e => by simp [edgesL]
  | d + 1, e => by
    simp only [edgesL, List.pairwise_flatMap]
    refine ⟨fun k _ => ?_, List.pairwise_lt_range.imp fun {a b} hab x hx y hy => ?_⟩
    · by_cases ok : okE q l e (k : Int) = true
      · rw [if_pos ok]; exact edgesL_asc d _
      · rw [if_neg ok]; exact List.Pairwise.nil
    · by_cases ok : okE q l e (a : Int) = true
      · rw [if_pos ok] at hx
        by_cases ok2 : okE q l e (b : Int) = true
        · rw [if_pos ok2] at hy
          obtain ⟨h1, s, h2⟩ := edgesL_pre d _ x hx
          obtain ⟨h3, u, h4⟩ := edgesL_pre d _ y hy
          exact .inr ⟨by rw [h1, h3], e, (a : Int), (b : Int), s, u, by rw [h2]; simp, by rw [h4]; simp, by omega⟩
        · rw [if_neg ok2] at hy; cases hy
      · rw [if_neg ok] at hx; cases hx
theorem nodesL_asc {q : Pb} : ∀ (d : Nat) (l : List Int), (nodesL q d l).Pairwise Asc
  | 0, l => edgesL_asc _ _
  | d + 1, l => by
    simp only [nodesL, List.pairwise_flatMap]
    refine ⟨fun k _ => ?_, List.pairwise_lt_range.imp fun {a b} hab x hx y hy => ?_⟩
    · by_cases ok : okN q l (k : Int) = true
      · rw [if_pos ok]; exact nodesL_asc d _
      · rw [if_neg ok]; exact List.Pairwise.nil
    · by_cases ok : okN q l (a : Int) = true
      · rw [if_pos ok] at hx
        by_cases ok2 : okN q l (b : Int) = true
        · rw [if_pos ok2] at hy
          obtain ⟨⟨s, h2⟩, _⟩ := nodesL_fit d _ x hx
          obtain ⟨⟨u, h4⟩, _⟩ := nodesL_fit d _ y hy
          exact .inl ⟨l, (a : Int), (b : Int), s, u, by rw [h2]; simp, by rw [h4]; simp, by omega⟩
        · rw [if_neg ok2] at hy; cases hy
      · rw [if_neg ok] at hx; cases hx

theorem cmp_eq {k : Nat} (x y : Int) : cmp_Compare_int k x y = some (if x < y then -1 else if x > y then 1 else 0) := by
  unfold cmp_Compare_int cmp_isNaN_int
  rw [Option.bind_some, Option.bind_some, bne_self_eq_false, bne_self_eq_false, cond_false, cond_false]
  by_cases h1 : x < y
  · rw [decide_eq_true h1, if_pos h1]; rfl
  · by_cases h2 : x > y
    · rw [decide_eq_false h1, decide_eq_true h2, if_neg h1, if_pos h2]; rfl
    · rw [decide_eq_false h1, decide_eq_false h2, if_neg h1, if_neg h2]; rfl
theorem Compare_same {k : Nat} {a : List Int} (hk : a.length < k) (ha : a.length ≤ 1000) : slices_Compare_int k a a = some 0 := by
  refine loop1_eq (fun _ => (0 : Int)) a.length (fun rec => ?_) (fun i hi rec ih => ?_) (Nat.zero_le _) (by omega)
  · rw [slices_Compare_int.b0, decide_eq_false (show ¬ (a.length : Int) < (a.length : Int) by omega), cond_false, cond_false]
  · rw [slices_Compare_int.b0, decide_eq_true (show (i : Int) < (a.length : Int) by omega), cond_true, gd (by omega), decide_eq_false (show ¬ (i : Int) ≥ (a.length : Int) by omega), cond_false, gd (by omega), cmp_eq, Option.bind_some, if_neg (by omega), if_neg (by omega), bne_self_eq_false, cond_false, gd (inR_nat (n := i) (by omega)), ih]
theorem Compare_lt {k : Nat} {a b : List Int} (hk : a.length < k) (ha : a.length ≤ 1000) (h : LexLt a b) : slices_Compare_int k a b = some (-1) := by
  obtain ⟨c, x, y, r, s, rfl, rfl, hxy⟩ := h
  have hla : (c ++ x :: r).length = c.length + (r.length + 1) := by simp
  have hlb : (c ++ y :: s).length = c.length + (s.length + 1) := by simp
  have hx : rd (c ++ x :: r) (c.length : Int) = x := by simp [rd, List.getD]
  have hy : rd (c ++ y :: s) (c.length : Int) = y := by simp [rd, List.getD]
  refine loop1_eq (b := slices_Compare_int.b0 k (c ++ x :: r) (c ++ y :: s)) (fun _ => (-1 : Int)) c.length (fun rec => ?_) (fun i hi rec ih => ?_) (Nat.zero_le _) (by omega)
  · rw [slices_Compare_int.b0, decide_eq_true (by omega), cond_true, gd (by omega), decide_eq_false (by omega), cond_false, gd (by omega), hx, hy, cmp_eq, Option.bind_some, if_pos hxy]; rfl
  · rw [slices_Compare_int.b0, decide_eq_true (by omega), cond_true, gd (by omega), decide_eq_false (by omega), cond_false, gd (by omega), rd_append_lt (by omega) (by omega), rd_append_lt (by omega) (by omega), cmp_eq, Option.bind_some, if_neg (by omega), if_neg (by omega), bne_self_eq_false, cond_false, gd (inR_nat (n := i) (by omega)), ih]

theorem allL_full {t : Types} {p g : Graph} {inj : Bool} : allL ⟨p, g, t.fNodes, fun _ => -1, fun _ => -1, inj⟩ 5001 = (fullL t p g inj).take 5001 := rfl
theorem law_all {k : Nat} (hk : 6000 ≤ k) (aw : law17_awake k = some true) (c : Case) (inj : Bool) (hA : ∀ n ∈ c.fT.fNodes, n.fAttrs.length ≤ 140737488351232) : law17_SearchAll k c inj = some true := by
  unfold law17_SearchAll
  rw [jn]; dsimp only
  rw [aw, Option.bind_some, Bool.not_true, cond_false]
  obtain ⟨b, e, hb⟩ := ref17_Light_out (k := k) (by omega) (p := c.fP) (g := c.fG) hA
  rw [e, Option.bind_some]
  cases b with
  | false => rfl
  | true =>
    have hl := (hb rfl).small
    have hnil : ref17_SameAll k [] [] = some true := SameAll_eq (by omega) (by simp; omega) (by simp) (by simp)
    rw [Bool.not_true, cond_false]
    have none_ : ∀ x : Int, (loop1 k (law17_SearchAll.b0 k c inj (([] : List Morphism), x)) 0) = some true := fun x => by
      obtain ⟨k, rfl⟩ : ∃ j, k = j + 1 := ⟨k - 1, by omega⟩
      unfold loop1
      rw [law17_SearchAll.b0]; rfl
    cases hz : (givenS c.fT c.fP c.fG != 0) with
    | true =>
      have e1 : search_All k c.fT c.fP c.fG inj = some ([], givenS c.fT c.fP c.fG) := by
        unfold search_All; rw [search_valid_eq (by omega) hl, Option.bind_some, hz, cond_true]
      have e2 : ref17_All k c.fT c.fP c.fG inj = some ([], givenS c.fT c.fP c.fG) := by
        unfold ref17_All; rw [ref17_given_eq (by omega) hl, Option.bind_some, hz, cond_true]
      unfold search_Count
      rw [e1, Option.bind_some, e2, Option.bind_some, Option.bind_some, Option.bind_some]
      unfold jn; dsimp only
      rw [bne_self_eq_false, cond_false, cond_false, hnil, Option.bind_some]
      exact none_ _
    | false =>
      have hz' : givenS c.fT c.fP c.fG = 0 := by simpa using hz
      have f := givenS_fine hz'
      have b1 := f.gp.nodes; have b2 := f.gp.edges
      obtain ⟨o, eo, ho⟩ := ref17_open_out (k := k) (by omega) f.gp
      have hf := found_eq (k := k) (by omega) hl.t f (part := OMorphism.mk none none) (pn := fun _ => -1) (pe := fun _ => -1) (inj := inj) (N := 5001) (by omega) (fun i hi => ⟨rfl, fun l h => by cases h⟩) (fun i hi => ⟨rfl, fun l h => by cases h⟩)
      have hr := run_eq (k := k) (by omega) f (part := o) (pn := fun _ => -1) (pe := fun _ => -1) (inj := inj) (N := 5001) (by omega) (by omega) ho.ln ho.le ho.n ho.e
      rw [allL_full] at hf hr
      have hf' : search_found k c.fT c.fP c.fG (OMorphism.mk none none) inj 5001 = _ := hf
      have hr' : ref17_run k c.fT c.fP c.fG o inj 5000 = _ := hr
      have e1 : search_All k c.fT c.fP c.fG inj = some (if (fullL c.fT c.fP c.fG inj).length > 5000 then ([], 3) else (fullL c.fT c.fP c.fG inj, 0)) := by
        unfold search_All
        rw [search_valid_eq (by omega) hl, Option.bind_some, hz, cond_false, search_all, hf', Option.bind_some]
        by_cases h : (fullL c.fT c.fP c.fG inj).length > 5000
        · rw [if_pos h, decide_eq_true (by rw [List.length_take]; omega)]; rfl
        · rw [if_neg h, decide_eq_false (by rw [List.length_take]; omega), List.take_of_length_le (by omega)]; rfl
      have e2 : ref17_All k c.fT c.fP c.fG inj = some (if (fullL c.fT c.fP c.fG inj).length > 5000 then ([], 3) else (fullL c.fT c.fP c.fG inj, 0)) := by
        unfold ref17_All
        rw [ref17_given_eq (by omega) hl, Option.bind_some, hz, cond_false, eo, Option.bind_some, hr', Option.bind_some]
        by_cases h : (fullL c.fT c.fP c.fG inj).length > 5000
        · rw [if_pos h, decide_eq_true (by rw [List.length_take]; omega)]; rfl
        · rw [if_neg h, decide_eq_false (by rw [List.length_take]; omega), List.take_of_length_le (by omega)]; rfl
      unfold search_Count
      rw [e1, Option.bind_some, e2, Option.bind_some, Option.bind_some, Option.bind_some]
      have hchk : ∀ m ∈ fullL c.fT c.fP c.fG inj, checkS c.fT c.fP c.fG m inj = 0 := fun m hm => full_check hz' hm
      have hlen : ∀ m ∈ fullL c.fT c.fP c.fG inj, m.fNodes.length = c.fP.fNodes.length ∧ m.fEdges.length = c.fP.fEdges.length := fun m hm => by
        have := nodesL_len _ _ m hm
        simpa [pbA] using this
      have hasc : (fullL c.fT c.fP c.fG inj).Pairwise Asc := nodesL_asc _ _
      generalize fullL c.fT c.fP c.fG inj = L at *
      by_cases h : L.length > 5000
      · rw [if_pos h]
        unfold jn; dsimp only
        rw [bne_self_eq_false, cond_false, cond_false, hnil, Option.bind_some]
        exact none_ _
      · rw [if_neg h]
        unfold jn; dsimp only
        rw [bne_self_eq_false, cond_false, cond_false, bne_self_eq_false, cond_false, SameAll_eq (by omega) (by omega) (by omega) (fun m hm => by have := hlen m hm; omega), Option.bind_some, Bool.not_true, cond_false]
        refine loop1_eq (fun _ => true) L.length (fun rec => ?_) (fun i hi rec ih => ?_) (Nat.zero_le _) (by omega)
        · rw [law17_SearchAll.b0]; dsimp only
          rw [decide_eq_false (show ¬ (L.length : Int) < (L.length : Int) by omega), cond_false]
        · have hmem : rd L (i : Int) ∈ L := rd_mem (by omega) (by omega)
          have hs := hlen _ hmem
          rw [law17_SearchAll.b0]; unfold jn; dsimp only
          rw [decide_eq_true (show (i : Int) < (L.length : Int) by omega), cond_true, gd (by omega), search_Check_eq (by omega) hl _ inj (by omega) (by omega), Option.bind_some, hchk _ hmem, bne_self_eq_false, cond_false]
          by_cases h0 : (i : Int) > 0
          · have hpre : rd L ((i : Int) - 1) ∈ L := rd_mem (by omega) (by omega)
            have hs2 := hlen _ hpre
            have hR : Asc (rd L ((i : Int) - 1)) (rd L (i : Int)) := by
              have := (List.pairwise_iff_getElem.1 hasc) (i - 1) i (by omega) hi (by omega)
              have e1 : rd L ((i : Int) - 1) = L[i - 1] := by
                have : ((i : Int) - 1).toNat = i - 1 := by omega
                simp [rd, List.getD, this, List.getElem?_eq_getElem (show i - 1 < L.length by omega)]
              have e2 : rd L (i : Int) = L[i] := by simp [rd, List.getD, List.getElem?_eq_getElem hi]
              rw [e1, e2]; exact this
            rw [decide_eq_true h0, cond_true, gd (inR_of (by omega)), gd (by omega)]
            rcases hR with hR | ⟨hE, hR⟩
            · rw [Compare_lt (by omega) (by omega) hR, Option.bind_some]
              rw [show decide ((-1 : Int) > 0) = false from rfl, show ((-1 : Int) == 0) = false from rfl, cond_false, cond_false, cond_false, gd (inR_nat (n := i) (by omega)), ih]
            · rw [hE, Compare_same (by omega) (by omega), Option.bind_some, Compare_lt (by omega) (by omega) hR, Option.bind_some]
              rw [show decide ((0 : Int) > 0) = false from rfl, show ((0 : Int) == 0) = true from rfl, show decide ((-1 : Int) ≥ 0) = false from rfl, cond_false, cond_true, cond_false, gd (inR_nat (n := i) (by omega)), ih]
          · rw [decide_eq_false h0, cond_false, gd (inR_nat (n := i) (by omega)), ih]
end Go.Proofs.YtelpgjfojhcjcaaGreat
