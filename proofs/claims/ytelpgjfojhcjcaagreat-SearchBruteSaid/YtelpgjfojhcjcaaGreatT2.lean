/- Graphs of drafts; the disjoint union; and the law SearchLarger about the pure functions. -/
import Derived.Test.YtelpgjfojhcjcaaGreatT1
namespace Go.Proofs.YtelpgjfojhcjcaaGreat
open Go Go.Abs

structure MadeG (t : Types) (a b : Nat) (g : Graph) : Prop where
  n : g.fNodes.length ≤ a
  e : g.fEdges.length ≤ b
  kind : ∀ j : Nat, j < g.fNodes.length → 0 ≤ rd g.fNodes (j : Int) ∧ rd g.fNodes (j : Int) < (t.fNodes.length : Int)
  right : ∀ j : Nat, j < g.fEdges.length → (0 ≤ (rd g.fEdges (j : Int)).fType ∧ (rd g.fEdges (j : Int)).fType < (t.fEdges.length : Int)) ∧ (0 ≤ (rd g.fEdges (j : Int)).fFrom ∧ (rd g.fEdges (j : Int)).fFrom < (g.fNodes.length : Int)) ∧ (0 ≤ (rd g.fEdges (j : Int)).fTo ∧ (rd g.fEdges (j : Int)).fTo < (g.fNodes.length : Int))
theorem MadeG.fine {t : Types} (ht : MadeT t) {a b : Nat} (ha : a ≤ 40) (hb : b ≤ 80) {g : Graph} (h : MadeG t a b g) : GoodG g ∧ graphErr g = 0 ∧ typedB t g = true := by
  have h1 := h.n; have h2 := h.e; have h5 := ht.e5; have h6 := ht.n6
  have hg : GoodG g := ⟨by omega, by omega, fun j hj => by have := h.kind j hj; omega, fun j hj => by have := h.right j hj; omega⟩
  refine ⟨hg, good_graphErr hg fun j hj => by have := h.right j hj; omega, ?_⟩
  unfold typedB
  rw [anyN_none fun j _ hj => decide_eq_false (by have := h.kind j hj; omega), anyN_none fun j _ hj => decide_eq_false (by have := h.right j hj; omega)]
  rfl
theorem made_given {t : Types} (ht : MadeT t) {a b c d : Nat} (ha : a ≤ 40) (hb : b ≤ 80) (hc : c ≤ 40) (hd : d ≤ 80) {p g : Graph} (hp : MadeG t a b p) (hg : MadeG t c d g) : givenS t p g = 0 := by
  have f1 := hp.fine ht ha hb; have f2 := hg.fine ht hc hd
  unfold givenS
  rw [made_valid ht, f1.2.1, f2.2.1, f1.2.2, f2.2.2]; rfl

theorem among_out {k : Nat} (hk : 200 ≤ k) {t : Types} (ht : MadeT t) {ns : List Int} {es : List Edge} {c : Int} (hc : 0 ≤ c) (hl : ns.length ≤ 40) (hn : ∀ j : Nat, j < ns.length → 0 ≤ rd ns (j : Int) ∧ rd ns (j : Int) < (t.fNodes.length : Int)) :
    Out (ref17_among k t (Graph.mk ns es) c) (fun l : List Int => l.length ≤ 40 ∧ ∀ x ∈ l, 0 ≤ x ∧ x < (ns.length : Int)) := by
  have h6 := ht.n6
  refine loop2_out (S := List Int) (P := fun _ _ (l : List Int) => l.length ≤ 40 ∧ ∀ x ∈ l, 0 ≤ x ∧ x < (ns.length : Int)) (I := fun s i => s.length ≤ i ∧ ∀ x ∈ s, 0 ≤ x ∧ x < (ns.length : Int)) ns.length (fun s hs rec => ?_) (fun s i hi hs rec ih => ?_) k 0 [] (Nat.zero_le _) (by omega) ⟨Nat.le_refl _, by simp⟩
  · rw [ref17_among.b0]; dsimp only
    rw [decide_eq_false (show ¬ (ns.length : Int) < (ns.length : Int) by omega), cond_false]
    exact ⟨_, rfl, by have := hs.1; omega, hs.2⟩
  · have hs1 := hs.1
    have hk1 := hn i hi
    rw [ref17_among.b0]; dsimp only
    rw [decide_eq_true (show (i : Int) < (ns.length : Int) by omega), cond_true, gd (by omega), ref04_Below1_eq hk (made_wf ht) (by omega) hk1.1 hk1.2 hc, Option.bind_some]
    cases isB t.fNodes (rd ns (i : Int)) c with
    | true =>
      rw [cond_true, gd (by simp [lim]; omega), gd (inR_nat (n := i) (by omega))]
      refine ih _ ⟨by simp; omega, fun x hx => ?_⟩
      rcases List.mem_append.1 hx with hx | hx
      · exact hs.2 x hx
      · rw [List.mem_singleton.1 hx]; omega
    | false =>
      rw [cond_false, gd (inR_nat (n := i) (by omega))]
      exact ih _ ⟨by omega, hs.2⟩

structure DraftOk (d : Draft) : Prop where
  nodes : ∀ x ∈ d.fNodes, U8 x
  edges : ∀ x ∈ d.fEdges, U8 x.e0 ∧ U8 x.e1 ∧ U8 x.e2
theorem Made2_out {k : Nat} (hk : 200 ≤ k) {t : Types} (ht : MadeT t) {d : Draft} (hd : DraftOk d) (ab : Bool) (h1 : d.fNodes.length ≤ 8) (h2 : d.fEdges.length ≤ 10) : Out (ref17_Made k t d ab) (MadeG t d.fNodes.length d.fEdges.length) := by
  have h6 := ht.n6; have h5 := ht.e5
  refine loop2_out (S := List Int) (P := fun _ _ g => MadeG t d.fNodes.length d.fEdges.length g) (I := fun s i => s.length ≤ i ∧ ∀ x ∈ s, 0 ≤ x ∧ x < (t.fNodes.length : Int)) t.fNodes.length (fun s hs rec => ?_) (fun s i hi hs rec ih => ?_) k 0 [] (Nat.zero_le _) (by omega) ⟨Nat.le_refl _, by simp⟩
  · have hs1 := hs.1
    rw [ref17_Made.b0, decide_eq_false (show ¬ (t.fNodes.length : Int) < (t.fNodes.length : Int) by omega), cond_false]
    obtain ⟨n, hn, hn1, hn2⟩ : ∃ n : Nat, n ≤ d.fNodes.length ∧ (∀ i, i < n → 0 < s.length ∧ i < d.fNodes.length) ∧ (s.length = 0 ∨ n = d.fNodes.length) := by
      by_cases h : s.length = 0
      · exact ⟨0, Nat.zero_le _, fun i hi => by omega, .inl h⟩
      · exact ⟨d.fNodes.length, Nat.le_refl _, fun i hi => ⟨by omega, hi⟩, .inr rfl⟩
    refine loop2_out (S := List Int) (P := fun _ _ g => MadeG t d.fNodes.length d.fEdges.length g) (I := fun y i => y.length = i ∧ ∀ j : Nat, j < i → 0 ≤ rd y (j : Int) ∧ rd y (j : Int) < (t.fNodes.length : Int)) n (fun y hy rec => ?_) (fun y i hi hy rec ih => ?_) k 0 [] (Nat.zero_le _) (by omega) ⟨rfl, fun j hj => by omega⟩
    · have hy1 := hy.1
      have hc : ∀ A E : Option Graph, (bif decide ((n : Int) < (d.fNodes.length : Int)) then (bif decide ((n : Int) < 8) then (bif decide ((s.length : Int) > 0) then A else E) else (bif false then A else E)) else (bif false then A else E)) = E := fun A E => by
        rcases hn2 with h | h
        · rw [decide_eq_false (show ¬ (s.length : Int) > 0 by omega)]
          cases decide ((n : Int) < (d.fNodes.length : Int)) <;> cases decide ((n : Int) < 8) <;> rfl
        · rw [decide_eq_false (show ¬ (n : Int) < (d.fNodes.length : Int) by omega)]; rfl
      rw [ref17_Made.b1, jn]; dsimp only
      rw [hc]
      obtain ⟨m, hm, hm1, hm2⟩ : ∃ m : Nat, m ≤ d.fEdges.length ∧ (∀ i, i < m → 0 < t.fEdges.length ∧ i < d.fEdges.length) ∧ (t.fEdges.length = 0 ∨ m = d.fEdges.length) := by
        by_cases h : t.fEdges.length = 0
        · exact ⟨0, Nat.zero_le _, fun i hi => by omega, .inl h⟩
        · exact ⟨d.fEdges.length, Nat.le_refl _, fun i hi => ⟨by omega, hi⟩, .inr rfl⟩
      refine loop2_out (S := List Edge) (P := fun _ _ g => MadeG t d.fNodes.length d.fEdges.length g) (I := fun z i => z.length ≤ i ∧ ∀ j : Nat, j < z.length → (0 ≤ (rd z (j : Int)).fType ∧ (rd z (j : Int)).fType < (t.fEdges.length : Int)) ∧ (0 ≤ (rd z (j : Int)).fFrom ∧ (rd z (j : Int)).fFrom < (n : Int)) ∧ (0 ≤ (rd z (j : Int)).fTo ∧ (rd z (j : Int)).fTo < (n : Int)))
        m (fun z hz rec => ?_) (fun z i hi hz rec ih => ?_) k 0 [] (Nat.zero_le _) (by omega) ⟨Nat.le_refl _, fun j hj => by simp at hj⟩
      · have hz1 := hz.1
        have hc : ∀ A E : Option Graph, (bif decide ((m : Int) < (d.fEdges.length : Int)) then (bif decide ((m : Int) < 10) then (bif decide ((t.fEdges.length : Int) > 0) then A else E) else (bif false then A else E)) else (bif false then A else E)) = E := fun A E => by
          rcases hm2 with h | h
          · rw [decide_eq_false (show ¬ (t.fEdges.length : Int) > 0 by omega)]
            cases decide ((m : Int) < (d.fEdges.length : Int)) <;> cases decide ((m : Int) < 10) <;> rfl
          · rw [decide_eq_false (show ¬ (m : Int) < (d.fEdges.length : Int) by omega)]; rfl
        rw [ref17_Made.b2, jn]; dsimp only
        rw [hc]
        refine ⟨_, rfl, ?_, ?_, fun j hj => hy.2 j (by dsimp only at hj; omega), fun j hj => ?_⟩
        · dsimp only; omega
        · dsimp only; omega
        · have := hz.2 j hj
          dsimp only; rw [hy1]; exact this
      · have hz1 := hz.1
        have hme := hm1 i hi
        have hu := hd.edges _ (rd_mem (l := d.fEdges) (x := (i : Int)) (by omega) (by omega))
        have ht0 := tm (n := (t.fEdges.length : Int)) hu.1.1 (by omega)
        have hE := ht.edge ((rd d.fEdges (i : Int)).e0.tmod (t.fEdges.length : Int)).toNat (by omega)
        rw [Int.toNat_of_nonneg ht0.1] at hE
        rw [ref17_Made.b2, jn]; dsimp only
        rw [decide_eq_true (show (i : Int) < (d.fEdges.length : Int) by omega), cond_true, decide_eq_true (show (i : Int) < 10 by omega), cond_true, decide_eq_true (show (t.fEdges.length : Int) > 0 by omega), cond_true, wrap_u8 hu.1, gd (by omega), gd (by omega), gd ht0]
        refine Out.bind (among_out hk ht hE.fr.1 (by omega) (by rw [hy1]; exact hy.2)) fun l1 hl1 => ?_
        rw [gd ht0]
        refine Out.bind (among_out hk ht hE.to.1 (by omega) (by rw [hy1]; exact hy.2)) fun l2 hl2 => ?_
        refine jn1_out (Q := fun b => b = true → 0 < l1.length ∧ 0 < l2.length) (fun j => ?_) (fun b hb => ?_)
        · by_cases h1 : (l1.length : Int) > 0
          · rw [decide_eq_true h1, cond_true]
            exact ⟨_, (fun h => by simp only [decide_eq_true_eq] at h; omega), rfl⟩
          · rw [decide_eq_false h1, cond_false]
            exact ⟨false, (fun h => absurd h (by decide)), rfl⟩
        · cases b with
          | false =>
            rw [cond_false, gd (inR_nat (n := i) (by omega))]
            exact ih _ ⟨by omega, hz.2⟩
          | true =>
            have hb' := hb rfl
            have hi1 := tm (n := (l1.length : Int)) hu.2.1.1 (by omega)
            have hi2 := tm (n := (l2.length : Int)) hu.2.2.1 (by omega)
            have hx1 := hl1.2 _ (rd_mem hi1.1 hi1.2)
            have hx2 := hl2.2 _ (rd_mem hi2.1 hi2.2)
            rw [cond_true, wrap_u8 hu.2.1, wrap_u8 hu.2.2, gd (by omega), gd (by omega), gd hi1, gd (by omega), gd (by omega), gd hi2, gd (by simp [lim]; omega), gd (inR_nat (n := i) (by omega))]
            refine ih _ ⟨by simp; omega, fun j hj => ?_⟩
            rw [List.length_append] at hj
            refine rd_new (P := fun _ (x : Edge) => (0 ≤ x.fType ∧ x.fType < (t.fEdges.length : Int)) ∧ (0 ≤ x.fFrom ∧ x.fFrom < (n : Int)) ∧ (0 ≤ x.fTo ∧ x.fTo < (n : Int))) rfl hz.2 ?_ (by simpa using hj)
            rw [hy1] at hx1 hx2
            exact ⟨ht0, hx1, hx2⟩
    · have hy1 := hy.1
      have hni := hn1 i hi
      have hu := hd.nodes _ (rd_mem (l := d.fNodes) (x := (i : Int)) (by omega) (by omega))
      have ht0 := tm (n := (s.length : Int)) hu.1 (by omega)
      have hx := hs.2 _ (rd_mem ht0.1 ht0.2)
      rw [ref17_Made.b1, jn]; dsimp only
      rw [decide_eq_true (show (i : Int) < (d.fNodes.length : Int) by omega), cond_true, decide_eq_true (show (i : Int) < 8 by omega), cond_true, decide_eq_true (show (s.length : Int) > 0 by omega), cond_true, wrap_u8 hu, gd (by omega), gd (by omega), gd ht0, gd (by simp [lim]; omega), gd (inR_nat (n := i) (by omega))]
      exact ih _ ⟨by simp [hy1], fun j hj => rd_new (P := fun _ (x : Int) => 0 ≤ x ∧ x < (t.fNodes.length : Int)) hy1 hy.2 hx hj⟩
  · have hs1 := hs.1
    rw [ref17_Made.b0, decide_eq_true (show (i : Int) < (t.fNodes.length : Int) by omega), cond_true]
    refine jn1_out (Q := fun _ => True) (fun j => ?_) (fun b _ => ?_)
    · cases ab with
      | true => exact ⟨true, trivial, rfl⟩
      | false => exact ⟨_, trivial, by rw [cond_false, gd (by omega)]⟩
    · cases b with
      | true =>
        rw [cond_true, gd (by simp [lim]; omega), gd (inR_nat (n := i) (by omega))]
        refine ih _ ⟨by simp; omega, fun x hx => ?_⟩
        rcases List.mem_append.1 hx with hx | hx
        · exact hs.2 x hx
        · rw [List.mem_singleton.1 hx]; omega
      | false =>
        rw [cond_false, gd (inR_nat (n := i) (by omega))]
        exact ih _ ⟨by omega, hs.2⟩

/-! ### The disjoint union -/
structure Ext2 (g h : Graph) : Prop where
  n : g.fNodes.length ≤ h.fNodes.length
  e : g.fEdges.length ≤ h.fEdges.length
  nodes : ∀ j : Nat, j < g.fNodes.length → rd h.fNodes (j : Int) = rd g.fNodes (j : Int)
  edges : ∀ j : Nat, j < g.fEdges.length → rd h.fEdges (j : Int) = rd g.fEdges (j : Int)
/-! ### A larger graph has all matches -/
theorem flat_sub {f f' : Nat → List Morphism} : ∀ {m m' : Nat}, m ≤ m' → (∀ k, k < m → List.Sublist (f k) (f' k)) → List.Sublist ((List.range m).flatMap f) ((List.range m').flatMap f')
  | m, 0, hm, _ => by
    have : m = 0 := by omega
    subst this; exact List.Sublist.refl _
  | m, m' + 1, hm, h => by
    rw [flat_succ]
    rcases Nat.eq_or_lt_of_le hm with rfl | hlt
    · rw [flat_succ]
      exact (flat_sub (Nat.le_refl _) fun k hk => h k (by omega)).append (h m' (by omega))
    · exact (flat_sub (by omega) h).trans (List.sublist_append_left _ _)
theorem edges_sub {p g h : Graph} (x : Ext2 g h) {ns : List NodeType} {pn pe : Int → Int} {inj : Bool} {l : List Int} : ∀ (d : Nat) (e : List Int), List.Sublist (edgesL ⟨p, g, ns, pn, pe, inj⟩ l d e) (edgesL ⟨p, h, ns, pn, pe, inj⟩ l d e)
  | 0, e => List.Sublist.refl _
  | d + 1, e => flat_sub x.e fun k hk => by
    have ho : okE ⟨p, h, ns, pn, pe, inj⟩ l e (k : Int) = okE ⟨p, g, ns, pn, pe, inj⟩ l e (k : Int) := by unfold okE fitE eqE; dsimp only; rw [x.edges k hk]
    rw [ho]
    by_cases hz : okE ⟨p, g, ns, pn, pe, inj⟩ l e (k : Int) = true
    · rw [if_pos hz, if_pos hz]; exact edges_sub x d _
    · rw [if_neg hz, if_neg hz]; exact List.Sublist.refl _
theorem nodes_sub {p g h : Graph} (x : Ext2 g h) {ns : List NodeType} {pn pe : Int → Int} {inj : Bool} : ∀ (d : Nat) (l : List Int), List.Sublist (nodesL ⟨p, g, ns, pn, pe, inj⟩ d l) (nodesL ⟨p, h, ns, pn, pe, inj⟩ d l)
  | 0, l => edges_sub x _ _
  | d + 1, l => flat_sub x.n fun k hk => by
    have ho : okN ⟨p, h, ns, pn, pe, inj⟩ l (k : Int) = okN ⟨p, g, ns, pn, pe, inj⟩ l (k : Int) := by unfold okN; dsimp only; rw [x.nodes k hk]
    rw [ho]
    by_cases hz : okN ⟨p, g, ns, pn, pe, inj⟩ l (k : Int) = true
    · rw [if_pos hz, if_pos hz]; exact nodes_sub x d _
    · rw [if_neg hz, if_neg hz]; exact List.Sublist.refl _
theorem fullL_len {t : Types} {p g : Graph} {inj : Bool} {m : Morphism} (h : m ∈ fullL t p g inj) : m.fNodes.length = p.fNodes.length ∧ m.fEdges.length = p.fEdges.length := by
  have := nodesL_len _ _ m h
  simpa [pbA] using this
theorem All_eq {k : Nat} (hk : 300 ≤ k) {t : Types} (ht : FewT t) {p g : Graph} (hp : FewG p) (hg : FewG g) (hz : givenS t p g = 0) (inj : Bool) :
    search_All k t p g inj = some (if (fullL t p g inj).length > 5000 then ([], 3) else (fullL t p g inj, 0)) := by
  have f := givenS_fine hz
  have hf := found_eq (k := k) hk ht f (part := OMorphism.mk none none) (pn := fun _ => -1) (pe := fun _ => -1) (inj := inj) (N := 5001) (by omega) (fun i hi => ⟨rfl, fun l h => by cases h⟩) (fun i hi => ⟨rfl, fun l h => by cases h⟩)
  have hf' : search_found k t p g (OMorphism.mk none none) inj 5001 = some ((fullL t p g inj).take 5001) := by
    rw [show (5001 : Int) = ((5001 : Nat) : Int) from rfl, hf]; rfl
  unfold search_All
  rw [search_valid_eq (by omega) ⟨ht, hp, hg⟩, Option.bind_some, hz, bne_self_eq_false, cond_false, search_all, hf', Option.bind_some]
  generalize fullL t p g inj = L
  by_cases h : L.length > 5000
  · rw [if_pos h, decide_eq_true (show ((L.take 5001).length : Int) > 5000 by rw [List.length_take]; omega)]; rfl
  · rw [if_neg h, decide_eq_false (show ¬ ((L.take 5001).length : Int) > 5000 by rw [List.length_take]; omega), List.take_of_length_le (by omega)]; rfl

theorem SameIntsB_out {k : Nat} {a b : List Int} (hk : a.length < k) (ha : a.length ≤ 1000000) : Out (ref02_SameInts k a b) (fun r => a = b → r = true) := by
  unfold ref02_SameInts
  cases hl : ((a.length : Int) != (b.length : Int)) with
  | true => exact ⟨false, rfl, fun h => by subst h; simp at hl⟩
  | false =>
    have hl' : (a.length : Int) = (b.length : Int) := by simpa using hl
    rw [cond_false]
    refine loop1_out (I := fun _ => True) (P := fun _ r => a = b → r = true) a.length (fun _ rec => ?_) (fun i hi _ rec ih => ?_) k 0 (Nat.zero_le _) (by omega) trivial
    · rw [ref02_SameInts.b0, decide_eq_false (show ¬ (a.length : Int) < (a.length : Int) by omega), cond_false]
      exact ⟨true, rfl, fun _ => rfl⟩
    · rw [ref02_SameInts.b0, decide_eq_true (show (i : Int) < (a.length : Int) by omega), cond_true, gd (by omega), gd (by omega), gd (inR_nat (n := i) (by omega))]
      cases hx : (rd a (i : Int) != rd b (i : Int)) with
      | true => exact ⟨false, rfl, fun h => by subst h; simp at hx⟩
      | false => exact ih trivial
theorem ContainsFunc_Morphism {k : Nat} (l : List Morphism) (f : Morphism → Option Bool) (p : Nat → Bool) (hk : l.length < k) (hl : l.length ≤ 1000000)
    (hf : ∀ j, j < l.length → f (rd l (j : Int)) = some (p j)) : slices_ContainsFunc_Morphism k l f = some (anyN p 0 l.length) := ix_contains l f p k hk hl hf
structure DraftsOk (d : Drafts) : Prop where
  nodes : ∀ x ∈ d.fNodes, U8 x.e0 ∧ U8 x.e1
  edges : ∀ x ∈ d.fEdges, U8 x.e0 ∧ U8 x.e1
  p : DraftOk d.fP
  g : DraftOk d.fG
theorem parts_out {k : Nat} (hk : 200 ≤ k) {d : Drafts} (h : DraftsOk d) : Out (law17_Drafts_parts k d) (fun r => r.2.2.2 = true → MadeT r.1 ∧ MadeG r.1 3 3 r.2.1 ∧ MadeG r.1 8 10 r.2.2.1) := by
  unfold law17_Drafts_parts
  refine jn1_out (Q := fun b => b = false → d.fNodes.length ≤ 6 ∧ d.fEdges.length ≤ 5 ∧ d.fP.fNodes.length ≤ 3 ∧ d.fP.fEdges.length ≤ 3 ∧ d.fG.fNodes.length ≤ 8 ∧ d.fG.fEdges.length ≤ 10) (fun j => ?_) (fun b hb => ?_)
  · by_cases h1 : (d.fNodes.length : Int) > 6
    · exact ⟨true, (fun h => absurd h (by decide)), by rw [decide_eq_true h1, cond_true]⟩
    rw [decide_eq_false h1, cond_false]
    by_cases h2 : (d.fEdges.length : Int) > 5
    · exact ⟨true, (fun h => absurd h (by decide)), by rw [decide_eq_true h2, cond_true]⟩
    rw [decide_eq_false h2, cond_false]
    by_cases h3 : (d.fP.fNodes.length : Int) > 3
    · exact ⟨true, (fun h => absurd h (by decide)), by rw [decide_eq_true h3, cond_true]⟩
    rw [decide_eq_false h3, cond_false]
    by_cases h4 : (d.fP.fEdges.length : Int) > 3
    · exact ⟨true, (fun h => absurd h (by decide)), by rw [decide_eq_true h4, cond_true]⟩
    rw [decide_eq_false h4, cond_false]
    by_cases h5 : (d.fG.fNodes.length : Int) > 8
    · exact ⟨true, (fun h => absurd h (by decide)), by rw [decide_eq_true h5, cond_true]⟩
    rw [decide_eq_false h5, cond_false]
    exact ⟨_, (fun h => by simp only [decide_eq_false_iff_not] at h; omega), rfl⟩
  · cases b with
    | true => exact ⟨_, rfl, fun h => by cases h⟩
    | false =>
      obtain ⟨h1, h2, h3, h4, h5, h6⟩ := hb rfl
      rw [cond_false]
      refine Out.bind (Made_out hk h1 h2 h.nodes h.edges) fun t ht => ?_
      refine Out.bind (Made2_out hk ht h.p true (by omega) (by omega)) fun p hp => ?_
      refine Out.bind (Made2_out hk ht h.g false (by omega) (by omega)) fun g hg => ?_
      exact ⟨_, rfl, fun _ => ⟨ht, ⟨Nat.le_trans hp.n h3, Nat.le_trans hp.e h4, hp.kind, hp.right⟩, ⟨Nat.le_trans hg.n h5, Nat.le_trans hg.e h6, hg.kind, hg.right⟩⟩⟩
end Go.Proofs.YtelpgjfojhcjcaaGreat
