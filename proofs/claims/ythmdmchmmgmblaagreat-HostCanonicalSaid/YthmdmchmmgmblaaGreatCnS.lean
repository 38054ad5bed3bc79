/- The pure laws: what the pure functions answer; the law of the row about them. -/
import Derived.Test.YthmdmchmmgmblaaGreatCnS0
namespace Go.Proofs.YthmdmchmmgmblaaGreat
open Go Go.Abs Go.Abs.CT
attribute [local irreducible] inR
variable {t : Types} {h : Host}

theorem sgn_zero {r x : Int} (s : Sgn r x) : (r == 0) = decide (x = 0) := by
  unfold Sgn at s
  rw [Bool.eq_iff_iff, beq_iff_eq, decide_eq_true_eq]; omega
theorem lx_zero {a b : List Int} : decide (lx a b = 0) = decide (a = b) := by
  rw [Bool.eq_iff_iff, decide_eq_true_eq, decide_eq_true_eq]
  exact ⟨lx_eq, fun e => by rw [e, lx_self]⟩
theorem lst_inj {a b : List Int} : (lst a = lst b) ↔ a = b := ⟨fun e => by unfold lst at e; exact (List.cons.inj e).2, fun e => by rw [e]⟩
theorem same_eq {k : Nat} (hk : 200 ≤ k) (c : Can t h) (i j a b : Int) : ref15_same k h.fGraph i j a b = some (decide (bt h.fGraph i j = bt h.fGraph a b)) := by
  have he := c.e20
  have l1 := bt_len h.fGraph i j; have l2 := bt_len h.fGraph a b
  unfold ref15_same
  obtain ⟨r, e, s⟩ := ref_compare_sgn (k := k) (a := lst (bt h.fGraph i j)) (b := lst (bt h.fGraph a b)) (by rw [lst_len]; omega) (by rw [lst_len]; omega) (by rw [lst_len]; omega) (c.sm_lst i j) (c.sm_lst a b)
  rw [ref_between_eq hk (by omega), Option.bind_some, ref_listed_eq hk (by omega), Option.bind_some, ref_between_eq hk (by omega), Option.bind_some, ref_listed_eq hk (by omega), Option.bind_some, e, Option.bind_some, sgn_zero s, lx_zero]
  congr 1
  rw [Bool.eq_iff_iff, decide_eq_true_eq, decide_eq_true_eq]; exact lst_inj
theorem twins_out {k : Nat} (hk : 200 ≤ k) (c : Can t h) {i j : Int} (hi : Mem (hs h) i) (hj : Mem (hs h) j) : Out (ref15_twins k h i j) (fun b => b = true ↔ CT.Twin (hs h) i j) := by
  have n8 := c.n8
  obtain ⟨gi1, gi2⟩ := Can.gx c.ok.len hi
  obtain ⟨gj1, gj2⟩ := Can.gx c.ok.len hj
  have li := c.lab_len hi; have lj := c.lab_len hj
  unfold ref15_twins jn; dsimp only
  rw [gd gi1, gd gj1]
  cases c1 : (rd h.fGraph.fNodes i != rd h.fGraph.fNodes j) with
  | true =>
    refine ⟨false, rfl, fun e => (by cases e), fun T => ?_⟩
    have := (List.cons.inj (show rd h.fGraph.fNodes i :: rd h.fValues i = rd h.fGraph.fNodes j :: rd h.fValues j from T.lab)).1
    rw [this, bne_self_eq_false] at c1; cases c1
  | false =>
    have n1 : rd h.fGraph.fNodes i = rd h.fGraph.fNodes j := by simpa using c1
    obtain ⟨r, e, s⟩ := ref_compare_sgn (k := k) (a := rd h.fValues i) (b := rd h.fValues j) (by omega) (by omega) (by omega) (c.sm_val hi) (c.sm_val hj)
    rw [cond_false, gd gi2, gd gj2, e, Option.bind_some, show (r != 0) = !(r == 0) from rfl, sgn_zero s, lx_zero]
    by_cases v : rd h.fValues i = rd h.fValues j
    · rw [decide_eq_true v, Bool.not_true, cond_false, same_eq hk c, Option.bind_some]
      by_cases x1 : bt h.fGraph i j = bt h.fGraph j i
      · rw [decide_eq_true x1, Bool.not_true, cond_false, same_eq hk c, Option.bind_some]
        by_cases x2 : bt h.fGraph i i = bt h.fGraph j j
        · rw [decide_eq_true x2, Bool.not_true, cond_false]
          refine loop1_out (I := fun m => ∀ w : Nat, w < m → (w : Int) ≠ i → (w : Int) ≠ j → bt h.fGraph i (w : Int) = bt h.fGraph j (w : Int) ∧ bt h.fGraph (w : Int) i = bt h.fGraph (w : Int) j) (P := fun _ b => b = true ↔ CT.Twin (hs h) i j) h.fGraph.fNodes.length (fun hI rec => ?_) (fun m hm hI rec ih => ?_) k 0 (Nat.zero_le _) (by omega) (fun w hw => absurd hw (Nat.not_lt_zero _))
          · rw [ref15_twins.b0, decide_eq_false (show ¬ (h.fGraph.fNodes.length : Int) < (h.fGraph.fNodes.length : Int) by omega), cond_false]
            refine ⟨true, rfl, fun _ => ⟨?_, x1, x2, fun w hw q1 q2 => ?_, fun w hw q1 q2 => ?_⟩, fun _ => rfl⟩
            · show rd h.fGraph.fNodes i :: rd h.fValues i = rd h.fGraph.fNodes j :: rd h.fValues j
              rw [n1, v]
            · have hw' : 0 ≤ w ∧ w < (h.fGraph.fNodes.length : Int) := hw
              have := hI w.toNat (by omega)
              rw [show ((w.toNat : Nat) : Int) = w by omega] at this
              exact (this q1 q2).1
            · have hw' : 0 ≤ w ∧ w < (h.fGraph.fNodes.length : Int) := hw
              have := hI w.toNat (by omega)
              rw [show ((w.toNat : Nat) : Int) = w by omega] at this
              exact (this q1 q2).2
          · rw [ref15_twins.b0, decide_eq_true (show (m : Int) < (h.fGraph.fNodes.length : Int) by omega), cond_true]
            unfold jn; dsimp only
            have hmm : Mem (hs h) (m : Int) := ⟨by omega, by show (m : Int) < (h.fGraph.fNodes.length : Int); omega⟩
            have next : ((m : Int) ≠ i → (m : Int) ≠ j → bt h.fGraph i (m : Int) = bt h.fGraph j (m : Int) ∧ bt h.fGraph (m : Int) i = bt h.fGraph (m : Int) j) → Out (if inR ((m : Int) + 1) then rec ((m : Int) + 1) else none) (fun b => b = true ↔ CT.Twin (hs h) i j) := fun hh => by
              rw [gd (inR_nat (n := m) (by omega))]
              refine ih fun w hw => ?_
              rcases Nat.lt_succ_iff_lt_or_eq.1 hw with hw | rfl
              · exact hI w hw
              · exact hh
            cases d1 : ((m : Int) != i) with
            | false => rw [cond_false, cond_false]; exact next fun q => absurd (by simpa using d1) q
            | true =>
              have d1' : (m : Int) ≠ i := by simpa using d1
              rw [cond_true]
              cases d2 : ((m : Int) != j) with
              | false => rw [cond_false, cond_false]; exact next fun _ q => absurd (by simpa using d2) q
              | true =>
                have d2' : (m : Int) ≠ j := by simpa using d2
                rw [cond_true, same_eq hk c, Option.bind_some]
                by_cases y1 : bt h.fGraph i (m : Int) = bt h.fGraph j (m : Int)
                · rw [decide_eq_true y1, Bool.not_true, cond_false, same_eq hk c, Option.bind_some]
                  by_cases y2 : bt h.fGraph (m : Int) i = bt h.fGraph (m : Int) j
                  · rw [decide_eq_true y2, Bool.not_true, cond_false]; exact next fun _ _ => ⟨y1, y2⟩
                  · rw [decide_eq_false y2, Bool.not_false, cond_true]
                    exact ⟨false, rfl, fun e => (by cases e), fun T => absurd (T.inn _ hmm d1' d2') y2⟩
                · rw [decide_eq_false y1, Bool.not_false, cond_true, cond_true]
                  exact ⟨false, rfl, fun e => (by cases e), fun T => absurd (T.out _ hmm d1' d2') y1⟩
        · rw [decide_eq_false x2, Bool.not_false, cond_true]
          exact ⟨false, rfl, fun e => (by cases e), fun T => absurd T.aa x2⟩
      · rw [decide_eq_false x1, Bool.not_false, cond_true, cond_true]
        exact ⟨false, rfl, fun e => (by cases e), fun T => absurd T.ab x1⟩
    · rw [decide_eq_false v, Bool.not_false, cond_true, cond_true]
      refine ⟨false, rfl, fun e => (by cases e), fun T => absurd ?_ v⟩
      exact (List.cons.inj (show rd h.fGraph.fNodes i :: rd h.fValues i = rd h.fGraph.fNodes j :: rd h.fValues j from T.lab)).2
def twB (h : Host) (i j : Int) : Bool := (ref15_twins 1000 h i j).getD false
theorem twB_iff (c : Can t h) {i j : Int} (hi : Mem (hs h) i) (hj : Mem (hs h) j) : twB h i j = true ↔ CT.Twin (hs h) i j := by
  obtain ⟨b, e, hb⟩ := twins_out (k := 1000) (by omega) c hi hj
  unfold twB; rw [e]; exact hb
theorem twins_eq {k : Nat} (hk : 200 ≤ k) (c : Can t h) {i j : Int} (hi : Mem (hs h) i) (hj : Mem (hs h) j) : ref15_twins k h i j = some (twB h i j) := by
  obtain ⟨b, e, hb⟩ := twins_out hk c hi hj
  rw [e]; congr 1
  rw [Bool.eq_iff_iff, hb, twB_iff c hi hj]
theorem has15_eq {k : Nat} {l : List Int} (hl : l.length ≤ 1000) (hk : l.length < k) (x : Int) : ref15_has k l x = some (decide (x ∈ l)) := by
  unfold ref15_has
  refine (loop1_out (I := fun i => x ∉ l.take i) (P := fun _ b => b = decide (x ∈ l)) l.length (fun hI rec => ?_) (fun i hi hI rec ih => ?_) k 0 (Nat.zero_le _) (by omega) (by simp)).eq
  · rw [List.take_length] at hI
    rw [ref15_has.b0, decide_eq_false (show ¬ (l.length : Int) < (l.length : Int) by omega), cond_false, decide_eq_false hI]; exact ⟨_, rfl, rfl⟩
  · rw [ref15_has.b0, decide_eq_true (show (i : Int) < (l.length : Int) by omega), cond_true, gd ⟨by omega, by omega⟩]
    by_cases e : rd l (i : Int) = x
    · rw [show (rd l (i : Int) == x) = true by simpa using e, cond_true, decide_eq_true (by rw [← e]; exact rd_mem (by omega) (by omega))]; exact ⟨_, rfl, rfl⟩
    · rw [show (rd l (i : Int) == x) = false by simpa using e, cond_false, gd (inR_nat (n := i) (by omega))]
      refine ih ?_
      rw [take_rdA hi, List.mem_append, List.mem_singleton]
      rintro (q | q)
      · exact hI q
      · exact e q.symm
def frN (h : Host) (o : List Int) (x : Nat) (i : Nat) : Bool := !decide ((x : Int) ∈ o) && (List.range i).all fun a => decide ((a : Int) ∈ o) || !twB h (a : Int) (x : Int)
def nxL (h : Host) (o : List Int) (m : Nat) : List Int := ((List.range m).filter fun x => frN h o x x).map fun x : Nat => (x : Int)
theorem frN_succ (h : Host) (o : List Int) (x i : Nat) : frN h o x (i + 1) = (frN h o x i && (decide ((i : Int) ∈ o) || !twB h (i : Int) (x : Int))) := by
  unfold frN; rw [List.range_succ, List.all_append, Bool.and_assoc]; simp
theorem frN_false {h : Host} {o : List Int} {x i : Nat} (hf : frN h o x i = false) : ∀ n, i ≤ n → frN h o x n = false := fun n hn => by
  induction n with
  | zero => obtain rfl : i = 0 := by omega
            exact hf
  | succ n ih =>
    rcases Nat.lt_or_ge n i with q | q
    · obtain rfl : i = n + 1 := by omega
      exact hf
    · rw [frN_succ, ih q]; rfl
theorem nxL_succ (h : Host) (o : List Int) (m : Nat) : nxL h o (m + 1) = nxL h o m ++ (bif frN h o m m then [(m : Int)] else []) := by
  unfold nxL
  rw [List.range_succ, List.filter_append, List.map_append]
  cases c : frN h o m m <;> simp [c]
theorem nxL_len (h : Host) (o : List Int) (m : Nat) : (nxL h o m).length ≤ m := by
  unfold nxL
  rw [List.length_map]
  have := List.length_filter_le (fun x => frN h o x x) (List.range m)
  rw [List.length_range] at this; exact this
theorem next_eq {k : Nat} (hk : 200 ≤ k) (c : Can t h) {o : List Int} (ho : o.length ≤ 8) : ref15_next k h o = some (nxL h o h.fGraph.fNodes.length) := by
  have lm : 5000 ≤ lim := by decide
  have n8 := c.n8
  unfold ref15_next
  refine (loop2_out (P := fun _ _ r => r = nxL h o h.fGraph.fNodes.length) (I := fun s m => s = nxL h o m) h.fGraph.fNodes.length (fun s hI rec => ?_) (fun s m hm hI rec ih => ?_) k 0 [] (Nat.zero_le _) (by omega) rfl).eq
  · rw [ref15_next.b0, decide_eq_false (show ¬ (h.fGraph.fNodes.length : Int) < (h.fGraph.fNodes.length : Int) by omega), cond_false]; exact ⟨_, rfl, hI⟩
  · subst hI
    have hs1 := nxL_succ h o m
    have hl := nxL_len h o m
    rw [ref15_next.b0, decide_eq_true (show (m : Int) < (h.fGraph.fNodes.length : Int) by omega), cond_true, has15_eq (by omega) (by omega), Option.bind_some]
    have fin : ∀ b : Bool, frN h o m m = b → Out (bif b then (if (nxL h o m).length + [(m : Int)].length ≤ lim then (if inR ((m : Int) + 1) then rec (nxL h o m ++ [(m : Int)]) ((m : Int) + 1) else none) else none) else (if inR ((m : Int) + 1) then rec (nxL h o m) ((m : Int) + 1) else none)) (fun r => r = nxL h o h.fGraph.fNodes.length) := fun b hb => by
      rw [hb] at hs1
      cases b with
      | true => rw [cond_true, gd (show _ ≤ lim by rw [List.length_singleton]; omega), gd (inR_nat (n := m) (by omega))]; exact ih _ hs1.symm
      | false => rw [cond_false, List.append_nil] at hs1; rw [cond_false, gd (inR_nat (n := m) (by omega))]; exact ih _ hs1.symm
    refine loop2_out (P := fun _ _ r => r = nxL h o h.fGraph.fNodes.length) (I := fun b i => b = frN h o m i) m (fun b hI rec1 => ?_) (fun b i hi hI rec1 ih1 => ?_) k 0 _ (Nat.zero_le _) (by omega) (by unfold frN; simp)
    · rw [ref15_next.b1]
      unfold jn; dsimp only
      rw [decide_eq_false (show ¬ (m : Int) < (m : Int) by omega), cond_false, cond_false]
      exact fin b hI.symm
    · rw [ref15_next.b1]
      unfold jn; dsimp only
      rw [decide_eq_true (show (i : Int) < (m : Int) by omega), cond_true]
      cases hb : b with
      | false =>
        rw [cond_false]
        exact fin false (frN_false (by rw [← hI, hb]) m (by omega))
      | true =>
        have hf := frN_succ h o m i
        rw [← hI, hb, Bool.true_and] at hf
        rw [cond_true, has15_eq (by omega) (by omega), Option.bind_some]
        by_cases q : (i : Int) ∈ o
        · rw [decide_eq_true q, cond_true, gd (inR_nat (n := i) (by omega))]
          exact ih1 _ (by rw [hf, decide_eq_true q]; rfl)
        · rw [decide_eq_false q, cond_false, twins_eq hk c ⟨by omega, by show (i : Int) < (h.fGraph.fNodes.length : Int); omega⟩ ⟨by omega, by show (m : Int) < (h.fGraph.fNodes.length : Int); omega⟩, Option.bind_some, gd (inR_nat (n := i) (by omega))]
          exact ih1 _ (by rw [hf, decide_eq_false q]; rfl)
theorem nxt (c : Can t h) : Nxt (hs h) (fun o => nxL h o h.fGraph.fNodes.length) := by
  refine ⟨fun o x hx => ?_, fun o x hx ho ha => ?_, fun o => ?_⟩
  · obtain ⟨m, hm, rfl⟩ := List.mem_map.1 hx
    obtain ⟨h1, h2⟩ := List.mem_filter.1 hm
    have := List.mem_range.1 h1
    refine ⟨⟨by omega, by show (m : Int) < (h.fGraph.fNodes.length : Int); omega⟩, ?_⟩
    unfold frN at h2
    rw [Bool.and_eq_true, Bool.not_eq_true', decide_eq_false_iff_not] at h2
    exact h2.1
  · have hx' : 0 ≤ x ∧ x < (h.fGraph.fNodes.length : Int) := hx
    have ex : ((x.toNat : Nat) : Int) = x := by omega
    refine List.mem_map.2 ⟨x.toNat, List.mem_filter.2 ⟨List.mem_range.2 (by omega), ?_⟩, ex⟩
    unfold frN
    rw [ex, Bool.and_eq_true, Bool.not_eq_true', decide_eq_false_iff_not]
    refine ⟨ho, ?_⟩
    rw [List.all_eq_true]
    intro a har
    have := List.mem_range.1 har
    have hma : Mem (hs h) (a : Int) := ⟨by omega, by show (a : Int) < (h.fGraph.fNodes.length : Int); omega⟩
    rw [Bool.or_eq_true, decide_eq_true_eq, Bool.not_eq_true']
    cases q : twB h (a : Int) x with
    | false => exact .inr rfl
    | true => exact .inl (ha _ hma (by omega) ((twB_iff c hma hx).1 q))
  · unfold nxL
    have h1 : (List.range h.fGraph.fNodes.length).Pairwise (· < ·) := List.pairwise_lt_range
    exact List.Pairwise.map _ (fun a b hab => by omega) (h1.filter _)
end Go.Proofs.YthmdmchmmgmblaaGreat

namespace Go.Proofs.YthmdmchmmgmblaaGreat
open Go Go.Abs Go.Abs.CT
attribute [local irreducible] inR
variable {t : Types} {h : Host}

theorem loop4_out {S T U R : Type} {b : (S → T → U → Int → Option R) → S → T → U → Int → Option R} {P : R → Prop} {I : S → T → U → Nat → Prop} (n : Nat) (hend : ∀ s u v, I s u v n → ∀ rec, Out (b rec s u v (n : Int)) P)
    (hstep : ∀ s u v i, i < n → I s u v i → ∀ rec : S → T → U → Int → Option R, (∀ s' u' v', I s' u' v' (i + 1) → Out (rec s' u' v' ((i : Int) + 1)) P) → Out (b rec s u v (i : Int)) P) :
    ∀ (k i : Nat) (s : S) (u : T) (v : U), i ≤ n → n < k + i → I s u v i → Out (loop4 k b s u v (i : Int)) P
  | 0, i, s, u, v, h, hk, _ => by omega
  | k + 1, i, s, u, v, h, hk, hi => by
    rcases Nat.lt_or_ge i n with hl | hl
    · refine hstep s u v i hl hi _ fun s' u' v' hI => ?_
      have := loop4_out n hend hstep k (i + 1) s' u' v' hl (by omega) hI
      simpa using this
    · have : i = n := by omega
      subst this
      exact hend s u v hi _
theorem drop_rdA {α : Type} [Inhabited α] {l : List α} {i : Nat} (hi : i < l.length) : l.drop i = rd l (i : Int) :: l.drop (i + 1) := by rw [rd_get1' hi, List.getElem_cons_drop]
theorem Contains15 {k : Nat} {l : List Int} (hl : l.length ≤ 1000) (hk : l.length < k) (x : Int) : slices_Contains_int k l x = some (decide (x ∈ l)) := by
  rw [Contains_int l x hk (by omega), anyN_mem]
theorem code_len (c : Can t h) : ∀ (m : Nat) {p : List Int}, p.length = m → Pre (hs h) p → (code (hs h) p).length ≤ 400 * m := by
  intro m
  induction m with
  | zero => intro p hl _; obtain rfl : p = [] := List.length_eq_zero_iff.1 hl; exact Nat.zero_le _
  | succ m ih =>
    intro p hl hp
    have hne : p ≠ [] := by rintro rfl; cases hl
    have e := List.dropLast_concat_getLast hne
    have hd : Pre (hs h) p.dropLast := ⟨by have := hp.nd; rw [← e, List.nodup_append] at this; exact this.1, fun x hx => hp.mem x (List.dropLast_subset _ hx)⟩
    have hlast : Mem (hs h) (p.getLast hne) := hp.mem _ (List.getLast_mem hne)
    have dl : p.dropLast.length = m := by rw [List.length_dropLast, hl]; rfl
    have n8 := c.n8
    have := hp.le
    have hn : (hs h).n = h.fGraph.fNodes.length := rfl
    have h1 := ih dl hd
    have h2 := c.seg_len (p := p.dropLast) (by omega) hlast
    rw [← e, code_snoc, List.length_append]; omega
/-! ### The program's search -/
theorem prefix_full {H : Hst} {p o : List Int} (hp : p.length = H.n) (F : Full H o) : p <+: o ↔ o = p := by
  constructor
  · intro hh; exact (hh.eq_of_length (by rw [hp, F.len])).symm
  · rintro rfl; exact List.prefix_refl _
theorem prefix_snoc {H : Hst} {p o : List Int} (hp : p.length < H.n) (F : Full H o) (hh : p <+: o) : ∃ y, Mem H y ∧ p ++ [y] <+: o := by
  obtain ⟨r, rfl⟩ := hh
  match r, F with
  | [], F => have := F.len; rw [List.append_nil] at this; omega
  | y :: r, F => exact ⟨y, F.mem y (by simp), ⟨r, by simp⟩⟩
theorem lx_prefix {p o q : List Int} {x y : Int} (hxy : x < y) (ho : p ++ [x] <+: o) (hq : p ++ [y] <+: q) : lx o q < 0 := by
  obtain ⟨r, rfl⟩ := ho
  obtain ⟨r', rfl⟩ := hq
  rw [List.append_assoc, List.append_assoc, lx_app, List.singleton_append, List.singleton_append, lx_cons, if_pos hxy]; omega
theorem search_out (c : Can t h) (n7 : h.fGraph.fNodes.length ≤ 7) : ∀ (d : Nat) (k : Nat), 5000 + d < k → ∀ (p : List Int), p.length + d = h.fGraph.fNodes.length → Pre (hs h) p → ∀ (A : List Int → Prop) (best least : List Int) (found : Bool), St (hs h) A best least found →
    (∀ o, Full (hs h) o → A o → ∀ q, Full (hs h) q → p <+: q → lx o q < 0) →
    Out (host_canon_search k (Canon.mk h p (code (hs h) p) best least found)) (fun r => St (hs h) (fun o => A o ∨ p <+: o) r.2.2.1 r.2.2.2.1 r.2.2.2.2) := by
  have lm : 5000 ≤ lim := by decide
  have hn : (hs h).n = h.fGraph.fNodes.length := rfl
  intro d
  induction d with
  | zero =>
    intro k hk p hp P A best least found s hlt
    obtain ⟨k', rfl⟩ : ∃ q, k = q + 1 := ⟨k - 1, by omega⟩
    have F : Full (hs h) p := ⟨P, by rw [hn]; omega⟩
    have cl := code_len c _ rfl P
    obtain ⟨v1, v2⟩ := s.visit F fun o ho ha => hlt o ho ha p F (List.prefix_refl _)
    have cg : ∀ o, Full (hs h) o → ((A o ∨ o = p) ↔ (A o ∨ p <+: o)) := fun o ho => by rw [prefix_full (by rw [hn]; omega) ho]
    show Out (host_canon_search.main (host_canon_search k') k' _) _
    unfold host_canon_search.main jn; dsimp only
    rw [show ((p.length : Int) == (h.fGraph.fNodes.length : Int)) = true by rw [beq_iff_eq]; omega, cond_true]
    have keep : (found = false ∨ lx (code (hs h) p) least < 0) → Out ((slices_Clone_int k' p).bind fun t119 => (slices_Clone_int k' (code (hs h) p)).bind fun t120 => some (p, code (hs h) p, t119, t120, true)) (fun r => St (hs h) (fun o => A o ∨ p <+: o) r.2.2.1 r.2.2.2.1 r.2.2.2.2) := fun hh => by
      unfold slices_Clone_int
      rw [if_pos (show p.length ≤ lim by omega), if_pos (show (code (hs h) p).length ≤ lim by omega), Option.bind_some, Option.bind_some]
      exact ⟨_, rfl, (v1 hh).congr cg⟩
    cases hf : found with
    | false => rw [Bool.not_false, cond_true, cond_true]; exact keep (.inl hf)
    | true =>
      rw [Bool.not_true, cond_false, Compare_eq (by omega) (by omega), Option.bind_some]
      by_cases q : lx (code (hs h) p) least < 0
      · rw [decide_eq_true q, cond_true]; exact keep (.inr q)
      · rw [decide_eq_false q, cond_false]
        rw [hf] at v2
        exact ⟨_, rfl, (v2 ⟨rfl, q⟩).congr cg⟩
  | succ d ih =>
    intro k hk p hp P A best least found s hlt
    obtain ⟨k', rfl⟩ : ∃ q, k = q + 1 := ⟨k - 1, by omega⟩
    have cl := code_len c _ rfl P
    show Out (host_canon_search.main (host_canon_search k') k' _) _
    unfold host_canon_search.main; dsimp only
    rw [show ((p.length : Int) == (h.fGraph.fNodes.length : Int)) = false by rw [beq_eq_false_iff_ne]; omega, cond_false]
    refine loop4_out (P := fun (r : List Int × List Int × List Int × List Int × Bool) => CT.St (hs h) (fun o => A o ∨ p <+: o) r.2.2.1 r.2.2.2.1 r.2.2.2.2) (I := fun y5 y6 y7 x => St (hs h) (fun o => A o ∨ ∃ y : Int, 0 ≤ y ∧ y < (x : Int) ∧ p ++ [y] <+: o) y5 y6 y7) h.fGraph.fNodes.length (fun y5 y6 y7 hI rec => ?_) (fun y5 y6 y7 x hx hI rec ihr => ?_) k' 0 best least found (Nat.zero_le _) (by omega) (s.congr fun o ho => ⟨.inl, fun q => by rcases q with q | ⟨y, h1, h2, _⟩; exact q; omega⟩)
    · rw [host_canon_search.b0, decide_eq_false (show ¬ (h.fGraph.fNodes.length : Int) < (h.fGraph.fNodes.length : Int) by omega), cond_false]
      refine ⟨_, rfl, hI.congr fun o ho => ⟨fun q => ?_, fun q => ?_⟩⟩
      · rcases q with q | ⟨y, _, _, q⟩
        · exact .inl q
        · exact .inr ((List.prefix_append _ _).trans q)
      · rcases q with q | q
        · exact .inl q
        · obtain ⟨y, hy, hq⟩ := prefix_snoc (by rw [hn]; omega) ho q
          exact .inr ⟨y, hy.1, hy.2, hq⟩
    · have mx : Mem (hs h) (x : Int) := ⟨by omega, by rw [hn]; omega⟩
      have up : ∀ o, ((A o ∨ ∃ y : Int, 0 ≤ y ∧ y < (x : Int) ∧ p ++ [y] <+: o) ∨ p ++ [(x : Int)] <+: o) ↔ (A o ∨ ∃ y : Int, 0 ≤ y ∧ y < ((x + 1 : Nat) : Int) ∧ p ++ [y] <+: o) := fun o => by
        constructor
        · rintro ((q | ⟨y, h1, h2, h3⟩) | q)
          · exact .inl q
          · exact .inr ⟨y, h1, by omega, h3⟩
          · exact .inr ⟨x, by omega, by omega, q⟩
        · rintro (q | ⟨y, h1, h2, h3⟩)
          · exact .inl (.inl q)
          · rcases Int.lt_or_le y (x : Int) with z | z
            · exact .inl (.inr ⟨y, h1, z, h3⟩)
            · obtain rfl : y = (x : Int) := by omega
              exact .inr h3
      rw [host_canon_search.b0, decide_eq_true (show (x : Int) < (h.fGraph.fNodes.length : Int) by omega), cond_true]
      dsimp only
      rw [Contains15 (by omega) (by omega), Option.bind_some]
      by_cases hm : (x : Int) ∈ p
      · rw [decide_eq_true hm, cond_true, gd (inR_nat (n := x) (by omega))]
        refine ihr _ _ _ (hI.congr fun o ho => ?_)
        rw [← up]
        refine ⟨.inl, fun q => ?_⟩
        rcases q with q | ⟨r, rfl⟩
        · exact q
        · have := ho.nd
          rw [List.nodup_append, List.nodup_append] at this
          exact absurd rfl (this.1.2.2 _ hm _ (by simp))
      · have P' := P.snoc mx hm
        have cs := code_snoc (hs h) p (x : Int)
        have pl : (p ++ [(x : Int)]).length = p.length + 1 := by rw [List.length_append, List.length_singleton]
        have cl' := code_len c _ rfl P'
        have sl := c.seg_len (p := p) (by omega) mx
        rw [decide_eq_false hm, cond_false]
        unfold slices_Clone_int jn; dsimp only
        rw [if_pos (show p.length ≤ lim by omega), Option.bind_some, gd (show _ ≤ lim by rw [List.length_singleton]; omega), if_pos (show (code (hs h) p).length ≤ lim by omega), Option.bind_some, place_eq (by omega) c (by omega) mx, Option.bind_some, gd (show _ ≤ lim by omega), ← cs]
        have go : Out ((host_canon_search k' (Canon.mk h (p ++ [(x : Int)]) (code (hs h) (p ++ [(x : Int)])) y5 y6 y7)).bind fun t356 => if inR ((x : Int) + 1) then rec t356.2.2.1 t356.2.2.2.1 t356.2.2.2.2 ((x : Int) + 1) else none) (fun r => St (hs h) (fun o => A o ∨ p <+: o) r.2.2.1 r.2.2.2.1 r.2.2.2.2) := by
          obtain ⟨r, er, hr⟩ := ih k' (by omega) (p ++ [(x : Int)]) (by omega) P' _ y5 y6 y7 hI fun o ho ha q hq hpq => by
            rcases ha with ha | ⟨y, _, h2, h3⟩
            · exact hlt o ho ha q hq ((List.prefix_append _ _).trans hpq)
            · exact lx_prefix h2 h3 hpq
          rw [er, Option.bind_some, gd (inR_nat (n := x) (by omega))]
          exact ihr _ _ _ (hr.congr fun o _ => up o)
        cases hf : y7 with
        | false =>
          rw [Bool.not_false, cond_true, cond_true]
          rw [hf] at go; exact go
        | true =>
          rw [hf] at hI go
          have hy := (hI.yes rfl).2.2.1
          have Fy := (hI.yes rfl).2.1
          have yl : y6.length ≤ 2800 := by rw [hy]; have := code_len c _ rfl Fy.toPre; have := Fy.len; rw [hn] at this; omega
          have em : (minI ((code (hs h) (p ++ [(x : Int)])).length : Int) (y6.length : Int)) = ((min (code (hs h) (p ++ [(x : Int)])).length y6.length : Nat) : Int) := by unfold minI; split <;> omega
          rw [Bool.not_true, cond_false, em, gd ⟨by omega, by omega⟩, Int.toNat_natCast, Compare_eq (by omega) (by omega), Option.bind_some]
          by_cases q : lx (code (hs h) (p ++ [(x : Int)])) (y6.take (min (code (hs h) (p ++ [(x : Int)])).length y6.length)) ≤ 0
          · rw [decide_eq_true q, cond_true]; exact go
          · rw [decide_eq_false q, cond_false, gd (inR_nat (n := x) (by omega))]
            exact ihr _ _ _ ((hI.cut (by omega)).congr fun o _ => up o)
theorem search_first (c : Can t h) (n7 : h.fGraph.fNodes.length ≤ 7) : ∃ O, First (hs h) O ∧ ∀ k, 6000 ≤ k → Out (host_canon_search k (Canon.mk h [] [] [] [] false)) (fun r => r.2.2.1 = O) := by
  have P0 : Pre (hs h) [] := ⟨List.nodup_nil, fun x hx => by cases hx⟩
  have s0 : St (hs h) (fun _ => False) [] [] false := ⟨fun _ _ _ q => q, fun e => by cases e⟩
  have run : ∀ k, 6000 ≤ k → Out (host_canon_search k (Canon.mk h [] [] [] [] false)) (fun r => First (hs h) r.2.2.1) := fun k hk => by
    obtain ⟨r, e, hr⟩ := search_out c n7 h.fGraph.fNodes.length k (by omega) [] (by simp) P0 (fun _ => False) [] [] false s0 (fun o _ q => False.elim q)
    refine ⟨r, e, ?_⟩
    have s1 : St (hs h) (fun _ => True) r.2.2.1 r.2.2.2.1 r.2.2.2.2 := hr.congr fun o _ => ⟨fun _ => trivial, fun _ => .inr (List.nil_prefix)⟩
    obtain ⟨q, hq⟩ := P0.ext
    exact (s1.first ⟨_, hq⟩).2
  obtain ⟨r, e, hr⟩ := run 6000 (Nat.le_refl _)
  refine ⟨_, hr, fun k hk => ?_⟩
  obtain ⟨r', e', hr'⟩ := run k hk
  exact ⟨r', e', hr'.uniq hr⟩
/-! ### The reference's levels -/
def desc : Nat → Nat → Nat
  | _, 0 => 1
  | n, k + 1 => desc n k * (n - k)
theorem desc_le : ∀ n, n < 8 → ∀ k, k < 9 → desc n k ≤ 5040 := by decide
theorem nx_room (c : Can t h) {o : List Int} (P : Pre (hs h) o) : (nxL h o h.fGraph.fNodes.length).length ≤ h.fGraph.fNodes.length - o.length := by
  have N := nxt c
  have nd : (o ++ nxL h o h.fGraph.fNodes.length).Nodup := by
    rw [List.nodup_append]
    exact ⟨P.nd, (N.up o).imp fun hab e => by omega, fun a ha b hb e => (N.mem o b hb).2 (by rw [← e]; exact ha)⟩
  have := len_le nd (m := nodes (hs h)) fun x hx => mem_nodes.2 (by
    rcases List.mem_append.1 hx with hx | hx
    · exact P.mem x hx
    · exact (N.mem o x hx).1)
  rw [nodes_len, List.length_append] at this
  have hn : (hs h).n = h.fGraph.fNodes.length := rfl
  omega
theorem cands_app (nx : List Int → List Int) (L M : List (List Int)) : cands nx (L ++ M) = cands nx L ++ cands nx M := by unfold cands; rw [List.flatMap_append]
theorem cands_len {nx : List Int → List Int} {m : Nat} : ∀ {L : List (List Int)}, (∀ o ∈ L, (nx o).length ≤ m) → (cands nx L).length ≤ L.length * m
  | [], _ => by simp [cands]
  | o :: L, hL => by
    have h1 := cands_len (L := L) fun q hq => hL q (by simp [hq])
    have h2 := hL o (by simp)
    unfold cands at h1 ⊢
    rw [List.flatMap_cons, List.length_append, List.length_map, List.length_cons, Nat.add_mul, Nat.one_mul]; omega
theorem best_b {H : Hst} {C : List (List Int × Int)} {b : List Int} {m : List (List Int)} (B : Best H C b m) (hm : m ≠ []) : ∃ x ∈ C, sg H x = b := by
  have : (C.filter fun x => decide (sg H x = b)) ≠ [] := fun e => hm (by rw [B.eq, e]; rfl)
  obtain ⟨x, hx⟩ := List.exists_mem_of_ne_nil _ this
  obtain ⟨h1, h2⟩ := List.mem_filter.1 hx
  exact ⟨x, h1, of_decide_eq_true h2⟩
theorem canon_order {k : Nat} (hk : 6000 ≤ k) (c : Can t h) (n7 : h.fGraph.fNodes.length ≤ 7) {O : List Int} (F : First (hs h) O) : ref15_order k h = some O := by
  have lm : 6000 ≤ lim := by decide
  have hn : (hs h).n = h.fGraph.fNodes.length := rfl
  have N := nxt c
  unfold ref15_order
  refine (loop2_out (P := fun _ _ r => r = O) (I := fun L l => Lev (hs h) O l L ∧ L.length ≤ desc h.fGraph.fNodes.length l) h.fGraph.fNodes.length (fun L hI rec => ?_) (fun L l hl hI rec ih => ?_) k 0 _ (Nat.zero_le _) (by omega) ⟨Lev.zero, Nat.le_refl 1⟩).eq
  · obtain ⟨V, _⟩ := hI
    rw [← hn] at V
    obtain ⟨r, rfl⟩ := V.last F
    rw [ref15_order.b0, decide_eq_false (show ¬ (h.fGraph.fNodes.length : Int) < (h.fGraph.fNodes.length : Int) by omega), cond_false, gd ⟨by omega, by rw [List.length_cons]; omega⟩]
    exact ⟨_, rfl, rfl⟩
  · obtain ⟨V, hL⟩ := hI
    have d1 := desc_le h.fGraph.fNodes.length (by omega) l (by omega)
    have d2 := desc_le h.fGraph.fNodes.length (by omega) (l + 1) (by omega)
    have len : ∀ o ∈ L, o.length = l := fun o ho => (V.each o ho).2.1
    have nxl : ∀ o ∈ L, (nxL h o h.fGraph.fNodes.length).length ≤ h.fGraph.fNodes.length - l := fun o ho => by
      have := nx_room c (V.each o ho).1
      rw [len o ho] at this; exact this
    have call : (cands (fun o => nxL h o h.fGraph.fNodes.length) L).length ≤ desc h.fGraph.fNodes.length (l + 1) := by
      refine Nat.le_trans (cands_len nxl) ?_
      exact Nat.mul_le_mul_right _ hL
    rw [ref15_order.b0, decide_eq_true (show (l : Int) < (h.fGraph.fNodes.length : Int) by omega), cond_true]
    refine loop3_out (P := fun r => r = O) (I := fun b m i => Best (hs h) (cands (fun o => nxL h o h.fGraph.fNodes.length) (L.take i)) b m) L.length (fun b m B rec1 => ?_) (fun b m i hi B rec1 ih1 => ?_) k 0 _ _ (Nat.zero_le _) (by omega) Best.nil
    · rw [List.take_length] at B
      rw [ref15_order.b1, decide_eq_false (show ¬ (L.length : Int) < (L.length : Int) by omega), cond_false, gd (inR_nat (n := l) (by omega))]
      refine ih _ ⟨V.step c.wf F N (by rw [hn]; exact hl) B, ?_⟩
      rw [B.eq, List.length_map]
      exact Nat.le_trans (List.length_filter_le _ _) call
    · have oi := rd_mem (l := L) (x := (i : Int)) (by omega) (by omega)
      have ol := len _ oi
      have Po := (V.each _ oi).1
      have gi : (0 : Int) ≤ (i : Int) ∧ (i : Int) < (L.length : Int) := ⟨by omega, by omega⟩
      rw [ref15_order.b1, decide_eq_true gi.2, cond_true, gd gi, next_eq (by omega) c (by omega), Option.bind_some]
      have hsplit : L = L.take i ++ rd L (i : Int) :: L.drop (i + 1) := by rw [← drop_rdA hi, List.take_append_drop]
      have part : ∀ j, (cands (fun o => nxL h o h.fGraph.fNodes.length) (L.take i) ++ ((nxL h (rd L (i : Int)) h.fGraph.fNodes.length).take j).map fun x => (rd L (i : Int), x)).length ≤ 5040 := fun j => by
        have e : (cands (fun o => nxL h o h.fGraph.fNodes.length) L).length = (cands (fun o => nxL h o h.fGraph.fNodes.length) (L.take i)).length + ((nxL h (rd L (i : Int)) h.fGraph.fNodes.length).length + (cands (fun o => nxL h o h.fGraph.fNodes.length) (L.drop (i + 1))).length) := by
          conv => lhs; rw [hsplit]
          rw [cands_app, List.length_append]
          unfold cands
          rw [List.flatMap_cons, List.length_append, List.length_map]
        rw [List.length_append, List.length_map, List.length_take]; omega
      refine loop3_out (P := fun r => r = O) (I := fun b m j => Best (hs h) (cands (fun o => nxL h o h.fGraph.fNodes.length) (L.take i) ++ ((nxL h (rd L (i : Int)) h.fGraph.fNodes.length).take j).map fun x => (rd L (i : Int), x)) b m) (nxL h (rd L (i : Int)) h.fGraph.fNodes.length).length (fun b m B rec2 => ?_) (fun b m j hj B rec2 ih2 => ?_) k 0 _ _ (Nat.zero_le _) (by have := nxl _ oi; omega) (by simpa using B)
      · rw [ref15_order.b2, decide_eq_false (show ¬ ((nxL h (rd L (i : Int)) h.fGraph.fNodes.length).length : Int) < _ by omega), cond_false, gd (inR_nat (n := i) (by omega))]
        refine ih1 _ _ ?_
        rw [List.take_length] at B
        rw [take_rdA hi, cands_app]
        have : cands (fun o => nxL h o h.fGraph.fNodes.length) [rd L (i : Int)] = (nxL h (rd L (i : Int)) h.fGraph.fNodes.length).map fun x => (rd L (i : Int), x) := by unfold cands; simp
        rw [this]; exact B
      · have gj : (0 : Int) ≤ (j : Int) ∧ (j : Int) < ((nxL h (rd L (i : Int)) h.fGraph.fNodes.length).length : Int) := ⟨by omega, by omega⟩
        have mx := (N.mem _ _ (rd_mem (l := nxL h (rd L (i : Int)) h.fGraph.fNodes.length) (x := (j : Int)) gj.1 gj.2)).1
        have pj := part j
        have ml : m.length ≤ 5040 := by
          rw [B.eq, List.length_map]
          exact Nat.le_trans (List.length_filter_le _ _) pj
        have nl := nxl _ oi
        have st := B.step (rd L (i : Int), rd (nxL h (rd L (i : Int)) h.fGraph.fNodes.length) (j : Int))
        have tk : ((nxL h (rd L (i : Int)) h.fGraph.fNodes.length).take (j + 1)).map (fun x => (rd L (i : Int), x)) = ((nxL h (rd L (i : Int)) h.fGraph.fNodes.length).take j).map (fun x => (rd L (i : Int), x)) ++ [(rd L (i : Int), rd (nxL h (rd L (i : Int)) h.fGraph.fNodes.length) (j : Int))] := by rw [take_rdA hj, List.map_append]; rfl
        rw [List.append_assoc, ← tk] at st
        rw [ref15_order.b2, decide_eq_true gj.2, cond_true, gd gi, gd gj, segment_eq (by omega) c (by omega) mx, Option.bind_some]
        unfold jn; dsimp only
        have sl := c.seg_len (p := rd L (i : Int)) (by omega) mx
        have add : ∀ m' : List (List Int), m'.length ≤ 5040 → Best (hs h) (cands (fun o => nxL h o h.fGraph.fNodes.length) (L.take i) ++ ((nxL h (rd L (i : Int)) h.fGraph.fNodes.length).take (j + 1)).map fun x => (rd L (i : Int), x)) (seg (hs h) (rd L (i : Int)) (rd (nxL h (rd L (i : Int)) h.fGraph.fNodes.length) (j : Int))) (m' ++ [rd L (i : Int) ++ [rd (nxL h (rd L (i : Int)) h.fGraph.fNodes.length) (j : Int)]]) →
            Out (if (0 : Int) ≤ (i : Int) ∧ (i : Int) < (L.length : Int) then (if (rd L (i : Int)).length ≤ lim then (if (0 : Int) ≤ (j : Int) ∧ (j : Int) < ((nxL h (rd L (i : Int)) h.fGraph.fNodes.length).length : Int) then (if (rd L (i : Int)).length + [rd (nxL h (rd L (i : Int)) h.fGraph.fNodes.length) (j : Int)].length ≤ lim then (if m'.length + [rd L (i : Int) ++ [rd (nxL h (rd L (i : Int)) h.fGraph.fNodes.length) (j : Int)]].length ≤ lim then (if inR ((j : Int) + 1) then rec2 (seg (hs h) (rd L (i : Int)) (rd (nxL h (rd L (i : Int)) h.fGraph.fNodes.length) (j : Int))) (m' ++ [rd L (i : Int) ++ [rd (nxL h (rd L (i : Int)) h.fGraph.fNodes.length) (j : Int)]]) ((j : Int) + 1) else none) else none) else none) else none) else none) else none) (fun r => r = O) := fun m' hm' B' => by
          rw [gd gi, gd (show _ ≤ lim by omega), gd gj, gd (show _ ≤ lim by rw [List.length_singleton]; omega), gd (show _ ≤ lim by rw [List.length_singleton]; omega), gd (inR_nat (n := j) (by omega))]
          exact ih2 _ _ B'
        by_cases hm : m = []
        · subst hm
          rw [show decide (((([] : List (List Int)).length : Nat) : Int) > 0) = false by decide, cond_false, cond_false, cond_false, cond_false]
          exact add [] (by simp) (st.2.2 (.inl rfl))
        · have mp : (m.length : Int) > 0 := by
            have := List.length_pos_iff.2 hm; omega
          obtain ⟨w, hw, ew⟩ := best_b B hm
          have wm : Mem (hs h) w.2 ∧ w.1.length ≤ 8 := by
            rcases List.mem_append.1 hw with q | q
            · obtain ⟨q1, q2⟩ := mem_cands.1 q
              exact ⟨(N.mem _ _ q2).1, by rw [len _ (List.mem_of_mem_take q1)]; omega⟩
            · obtain ⟨z, hz, rfl⟩ := List.mem_map.1 q
              exact ⟨(N.mem _ _ (List.mem_of_mem_take hz)).1, by show (rd L (i : Int)).length ≤ 8; omega⟩
          have bs : (∀ y ∈ b, SmI y) ∧ b.length ≤ 400 := by
            rw [← ew]; exact ⟨c.sm_seg wm.1, c.seg_len wm.2 wm.1⟩
          obtain ⟨r, er, sr⟩ := ref_compare_sgn (k := k) (a := seg (hs h) (rd L (i : Int)) (rd (nxL h (rd L (i : Int)) h.fGraph.fNodes.length) (j : Int))) (b := b) (by omega) (by omega) (by omega) (c.sm_seg mx) bs.1
          unfold Sgn at sr
          rw [decide_eq_true mp, cond_true, er, Option.bind_some]
          by_cases q1 : r > 0
          · rw [decide_eq_true q1, cond_true, gd (inR_nat (n := j) (by omega))]
            exact ih2 _ _ (st.1 hm (sr.2.1 q1))
          · rw [decide_eq_false q1, cond_false, cond_true, Option.bind_some]
            by_cases q2 : r < 0
            · rw [decide_eq_true q2, cond_true]
              exact add [] (by simp) (st.2.1 hm (sr.1.1 q2))
            · rw [decide_eq_false q2, cond_false]
              have e0 : lx (seg (hs h) (rd L (i : Int)) (rd (nxL h (rd L (i : Int)) h.fGraph.fNodes.length) (j : Int))) b = 0 := by omega
              exact add m ml (st.2.2 (.inr (lx_eq e0)))
end Go.Proofs.YthmdmchmmgmblaaGreat

namespace Go.Proofs.YthmdmchmmgmblaaGreat
open Go Go.Abs Go.Abs.CT
attribute [local irreducible] inR
variable {t : Types} {h : Host}

def kt (g : Graph) (P : List Int) (e : Int) : Int × Int × Int × Int :=
  if rd P (rd g.fEdges e).fFrom < rd P (rd g.fEdges e).fTo then (rd P (rd g.fEdges e).fTo, rd P (rd g.fEdges e).fFrom, 0, tyE g e)
  else if rd P (rd g.fEdges e).fFrom > rd P (rd g.fEdges e).fTo then (rd P (rd g.fEdges e).fFrom, rd P (rd g.fEdges e).fTo, 1, tyE g e)
  else (rd P (rd g.fEdges e).fTo, 8, 0, tyE g e)
def l4 (x : Int × Int × Int × Int) : List Int := [x.1, x.2.1, x.2.2.1, x.2.2.2]
def key4 (g : Graph) (P : List Int) (e : Int) : List Int := l4 (kt g P e)
def klt (g : Graph) (P : List Int) (a b : Int) : Prop := lx (key4 g P a ++ [a]) (key4 g P b ++ [b]) < 0
theorem klt_as (g : Graph) (P : List Int) (a b : Int) (h : klt g P a b) : ¬ klt g P b a := by
  unfold klt at *
  have := lx_neg (key4 g P a ++ [a]) (key4 g P b ++ [b]); omega
theorem klt_lt {g : Graph} {P : List Int} {a b : Int} (h : lx (key4 g P a) (key4 g P b) < 0) : klt g P a b := lx_snoc_lt a b rfl h
theorem klt_eq {g : Graph} {P : List Int} {a b : Int} (h : ¬ lx (key4 g P b) (key4 g P a) < 0) (hab : a < b) : klt g P a b := by
  have n := lx_neg (key4 g P a) (key4 g P b)
  rcases Int.lt_or_eq_of_le (show lx (key4 g P a) (key4 g P b) ≤ 0 by omega) with q | q
  · exact klt_lt q
  · unfold klt
    rw [lx_eq q, lx_app, lx_cons, if_pos hab]; omega
theorem sorted_mem {α : Type} {r : α → α → Prop} (as : ∀ a b, r a b → ¬ r b a) : ∀ {l m : List α}, (∀ x, x ∈ l ↔ x ∈ m) → l.Pairwise r → m.Pairwise r → l = m
  | [], [], _, _, _ => rfl
  | [], b :: m, h, _, _ => absurd ((h b).2 List.mem_cons_self) (by simp)
  | a :: l, [], h, _, _ => absurd ((h a).1 List.mem_cons_self) (by simp)
  | a :: l, b :: m, h, h1, h2 => by
    have h1 := List.pairwise_cons.1 h1; have h2 := List.pairwise_cons.1 h2
    have e : a = b := by
      rcases List.mem_cons.1 ((h a).1 List.mem_cons_self) with e | hm
      · exact e
      · rcases List.mem_cons.1 ((h b).2 List.mem_cons_self) with e | hl
        · exact e.symm
        · exact absurd (h1.1 b hl) (as b a (h2.1 a hm))
    subst e
    rw [sorted_mem as (l := l) (m := m) (fun x => ⟨fun hx => ?_, fun hx => ?_⟩) h1.2 h2.2]
    · rcases List.mem_cons.1 ((h x).1 (List.mem_cons_of_mem _ hx)) with e | q
      · subst e; exact absurd (h1.1 x hx) (as x x (h1.1 x hx))
      · exact q
    · rcases List.mem_cons.1 ((h x).2 (List.mem_cons_of_mem _ hx)) with e | q
      · subst e; exact absurd (h2.1 x hx) (as x x (h2.1 x hx))
      · exact q
/-! ### The stable sort -/
theorem cmp_one (k : Nat) (x y : Int) : cmp_Compare_int k x y = some (if x < y then -1 else if y < x then 1 else 0) := by
  unfold cmp_Compare_int cmp_isNaN_int
  rw [bne_self_eq_false, bne_self_eq_false, Option.bind_some, Option.bind_some, cond_false, cond_false]
  by_cases c : x < y
  · rw [decide_eq_true c, if_pos c]; rfl
  · rw [decide_eq_false c, if_neg c, cond_false]
    by_cases d : y < x
    · rw [decide_eq_true (show x > y from d), if_pos d]; rfl
    · rw [decide_eq_false (show ¬ x > y from d), if_neg d]; rfl
theorem or4 {k : Nat} (hk : 10 ≤ k) (a b c d : Int) : cmp_Or_int k [a, b, c, d] = some (if a ≠ 0 then a else if b ≠ 0 then b else if c ≠ 0 then c else d) := by
  unfold cmp_Or_int
  obtain ⟨k', rfl⟩ : ∃ q, k = q + 5 := ⟨k - 5, by omega⟩
  have step : ∀ (i : Nat) (x : Int) (rec : Int → Option Int), i < 4 → rd [a, b, c, d] (i : Int) = x → cmp_Or_int.b0 [a, b, c, d] rec (i : Int) = if x ≠ 0 then some x else rec ((i : Int) + 1) := fun i x rec hi hx => by
    rw [cmp_Or_int.b0, decide_eq_true (show (i : Int) < (([a, b, c, d] : List Int).length : Int) by simp; omega), cond_true, gd ⟨by omega, by simp; omega⟩, hx, gd (inR_nat (n := i) (by omega))]
    by_cases q : x = 0
    · subst q; rw [if_neg (by simp)]; rfl
    · rw [if_pos q, show (x != 0) = true by simpa using q, cond_true]
  have e0 := step 0 a (loop1 (k' + 4) (cmp_Or_int.b0 [a, b, c, d])) (by omega) rfl
  have e1 := step 1 b (loop1 (k' + 3) (cmp_Or_int.b0 [a, b, c, d])) (by omega) rfl
  have e2 := step 2 c (loop1 (k' + 2) (cmp_Or_int.b0 [a, b, c, d])) (by omega) rfl
  have e3 := step 3 d (loop1 (k' + 1) (cmp_Or_int.b0 [a, b, c, d])) (by omega) rfl
  have e4 : ∀ rec : Int → Option Int, cmp_Or_int.b0 [a, b, c, d] rec 4 = some 0 := fun rec => by
    rw [cmp_Or_int.b0, decide_eq_false (by simp), cond_false]
  show cmp_Or_int.b0 [a, b, c, d] (loop1 (k' + 4) _) ((0 : Nat) : Int) = _
  rw [e0]
  by_cases qa : a = 0
  · rw [if_neg (by simpa using qa), if_neg (by simpa using qa)]
    show cmp_Or_int.b0 [a, b, c, d] (loop1 (k' + 3) _) ((1 : Nat) : Int) = _
    rw [e1]
    by_cases qb : b = 0
    · rw [if_neg (by simpa using qb), if_neg (by simpa using qb)]
      show cmp_Or_int.b0 [a, b, c, d] (loop1 (k' + 2) _) ((2 : Nat) : Int) = _
      rw [e2]
      by_cases qc : c = 0
      · rw [if_neg (by simpa using qc), if_neg (by simpa using qc)]
        show cmp_Or_int.b0 [a, b, c, d] (loop1 (k' + 1) _) ((3 : Nat) : Int) = _
        rw [e3]
        by_cases qd : d = 0
        · rw [if_neg (by simpa using qd)]
          show cmp_Or_int.b0 [a, b, c, d] (loop1 k' _) 4 = _
          rw [e4, qd]
        · rw [if_pos qd]
      · rw [if_pos qc, if_pos qc]
    · rw [if_pos qb, if_pos qb]
  · rw [if_pos qa, if_pos qa]
theorem inR_small15 {m : Nat} (h : m ≤ 1000000) : inR (m : Int) := by unfold inR; omega
theorem cmp_key {k : Nat} (hk : 10 ≤ k) (c : Can t h) {P : List Int} (hP : P.length = h.fGraph.fNodes.length) {a b : Int} (a0 : 0 ≤ a) (a1 : a < (h.fGraph.fEdges.length : Int)) (b0 : 0 ≤ b) (b1 : b < (h.fGraph.fEdges.length : Int)) :
    host_listedEdges_2 k a b (fun x => host_listedEdges_1 k x h.fGraph P) = some (lx (key4 h.fGraph P a) (key4 h.fGraph P b)) := by
  have one : ∀ e : Int, 0 ≤ e → e < (h.fGraph.fEdges.length : Int) → host_listedEdges_1 k e h.fGraph P = some (kt h.fGraph P e) := fun e e0 e1 => by
    obtain ⟨_, mf, mt⟩ := c.edge e0 e1
    have mf' : 0 ≤ (rd h.fGraph.fEdges e).fFrom ∧ (rd h.fGraph.fEdges e).fFrom < (h.fGraph.fNodes.length : Int) := mf
    have mt' : 0 ≤ (rd h.fGraph.fEdges e).fTo ∧ (rd h.fGraph.fEdges e).fTo < (h.fGraph.fNodes.length : Int) := mt
    unfold host_listedEdges_1 kt
    rw [gd ⟨e0, e1⟩, gd ⟨mf'.1, by rw [hP]; exact mf'.2⟩, gd ⟨mt'.1, by rw [hP]; exact mt'.2⟩]
    by_cases q : rd P (rd h.fGraph.fEdges e).fFrom < rd P (rd h.fGraph.fEdges e).fTo
    · rw [decide_eq_true q, if_pos q]; rfl
    · rw [decide_eq_false q, if_neg q, cond_false]
      by_cases q2 : rd P (rd h.fGraph.fEdges e).fFrom > rd P (rd h.fGraph.fEdges e).fTo
      · rw [decide_eq_true q2, if_pos q2]; rfl
      · rw [decide_eq_false q2, if_neg q2]; rfl
  unfold host_listedEdges_2
  show ((host_listedEdges_1 k a h.fGraph P).bind _) = _
  rw [one a a0 a1, Option.bind_some]
  show ((host_listedEdges_1 k b h.fGraph P).bind _) = _
  rw [one b b0 b1, Option.bind_some, cmp_one, cmp_one, cmp_one, cmp_one, Option.bind_some, Option.bind_some, Option.bind_some, Option.bind_some, or4 hk, Option.bind_some]
  congr 1
  unfold key4 l4
  generalize kt h.fGraph P a = x
  generalize kt h.fGraph P b = y
  obtain ⟨x1, x2, x3, x4⟩ := x
  obtain ⟨y1, y2, y3, y4⟩ := y
  show _ = lx [x1, x2, x3, x4] [y1, y2, y3, y4]
  rw [lx_cons, lx_cons, lx_cons, lx_cons, lx_nn]
  dsimp only
  repeat' split
  all_goals first | rfl | omega
/-! ### Insertion -/
def insd (a b rest : List Int) (v : Int) : List Int := (a ++ v :: b) ++ rest
theorem insd_at (a b rest : List Int) (v : Int) : rd (insd a b rest v) (a.length : Int) = v := by
  unfold insd
  rw [rd_get1' (by simp)]; simp
theorem insd_prev (a b rest : List Int) (x v : Int) : rd (insd (a ++ [x]) b rest v) (a.length : Int) = x := by
  unfold insd
  rw [rd_get1' (by simp)]; simp
theorem insd_swap (a b rest : List Int) (x v : Int) : ((insd (a ++ [x]) b rest v).set (a.length + 1) x).set a.length v = insd a (x :: b) rest v := by
  unfold insd
  simp
theorem insd_len (a b rest : List Int) (v : Int) : (insd a b rest v).length = a.length + b.length + rest.length + 1 := by unfold insd; simp; omega
theorem ins_stop {a1 x8 x9 : Int} {fn : (Int × Int) → Option Int} {rec0 rec1 : List Int → Int → Option (List Int)} {s : List Int} (hx : ¬ x9 > a1) : slices_insertionSortCmpFunc_int.b1 a1 fn x8 rec0 rec1 s x9 = if inR (x8 + 1) then rec0 s (x8 + 1) else none := by
  rw [slices_insertionSortCmpFunc_int.b1]
  unfold jn; dsimp only
  rw [decide_eq_false hx, cond_false, cond_false]
theorem insert_out {k : Nat} (c : Can t h) {P : List Int} (hP : P.length = h.fGraph.fNodes.length) (hk : 10 ≤ k) {i : Nat} {rest : List Int} {R : List Int → Prop} (hi : i < h.fGraph.fEdges.length) (rec0 : List Int → Int → Option (List Int)) (fn : (Int × Int) → Option Int)
    (hf : ∀ a b : Int, 0 ≤ a → a < (h.fGraph.fEdges.length : Int) → 0 ≤ b → b < (h.fGraph.fEdges.length : Int) → fn (a, b) = some (lx (key4 h.fGraph P a) (key4 h.fGraph P b)))
    (ih : ∀ s : List Int, s.Pairwise (klt h.fGraph P) → (∀ x, x ∈ s ↔ 0 ≤ x ∧ x < ((i + 1 : Nat) : Int)) → s.length = i + 1 → Out (rec0 (s ++ rest) ((i : Int) + 1)) R) :
    ∀ (m : Nat) (a b : List Int), a.length = m → (a ++ b).length = i → (a ++ b).Pairwise (klt h.fGraph P) → (∀ x, x ∈ a ++ b ↔ 0 ≤ x ∧ x < (i : Int)) → (∀ y ∈ b, lx (key4 h.fGraph P (i : Int)) (key4 h.fGraph P y) < 0) →
      ∀ q, m < q → Out (loop2 q (slices_insertionSortCmpFunc_int.b1 0 fn (i : Int) rec0) (insd a b rest (i : Int)) (m : Int)) R := by
  have e20 := c.e20
  have stop : ∀ (a b : List Int), (a ++ b).length = i → (a ++ b).Pairwise (klt h.fGraph P) → (∀ x, x ∈ a ++ b ↔ 0 ≤ x ∧ x < (i : Int)) → (∀ y ∈ b, lx (key4 h.fGraph P (i : Int)) (key4 h.fGraph P y) < 0) → (∀ x ∈ a, klt h.fGraph P x (i : Int)) → Out (if inR ((i : Int) + 1) then rec0 (insd a b rest (i : Int)) ((i : Int) + 1) else none) R := fun a b hl hs hm hb ha => by
    rw [gd (inR_nat (n := i) (by omega))]
    refine ih (a ++ (i : Int) :: b) ?_ (fun x => ?_) (by rw [List.length_append, List.length_cons]; rw [List.length_append] at hl; omega)
    · rw [List.pairwise_append] at hs
      rw [List.pairwise_append, List.pairwise_cons]
      refine ⟨hs.1, ⟨fun y hy => klt_lt (hb y hy), hs.2.1⟩, fun x hx y hy => ?_⟩
      rcases List.mem_cons.1 hy with rfl | hy
      · exact ha x hx
      · exact hs.2.2 x hx y hy
    · rw [List.mem_append, List.mem_cons]
      have := hm x
      rw [List.mem_append] at this
      constructor
      · rintro (q | q | q)
        · have := this.1 (.inl q); omega
        · omega
        · have := this.1 (.inr q); omega
      · intro q
        by_cases z : x = (i : Int)
        · exact .inr (.inl z)
        · rcases this.2 ⟨q.1, by omega⟩ with w | w
          · exact .inl w
          · exact .inr (.inr w)
  intro m
  induction m with
  | zero =>
    intro a b ha hl hs hm hb q hq
    obtain ⟨q', rfl⟩ : ∃ z, q = z + 1 := ⟨q - 1, by omega⟩
    obtain rfl : a = [] := List.length_eq_zero_iff.1 ha
    rw [loop2_succ, ins_stop (show ¬ ((0 : Nat) : Int) > 0 by omega)]
    exact stop [] b hl hs hm hb fun x hx => (by cases hx)
  | succ m ihm =>
    intro a b ha hl hs hm hb q hq
    obtain ⟨q', rfl⟩ : ∃ z, q = z + 1 := ⟨q - 1, by omega⟩
    have hne : a ≠ [] := by rintro rfl; cases ha
    obtain ⟨a', x, rfl⟩ : ∃ a' x, a = a' ++ [x] := ⟨_, _, (List.dropLast_concat_getLast hne).symm⟩
    have al : a'.length = m := by rw [List.length_append, List.length_singleton] at ha; omega
    have il := insd_len (a' ++ [x]) b rest (i : Int)
    have hmi : m + 1 ≤ i := by rw [List.length_append] at hl; omega
    have e1 : ((m + 1 : Nat) : Int) - 1 = (m : Int) := by omega
    have rj : rd (insd (a' ++ [x]) b rest (i : Int)) ((m + 1 : Nat) : Int) = (i : Int) := by
      have := insd_at (a' ++ [x]) b rest (i : Int)
      rw [ha] at this; exact this
    have rp : rd (insd (a' ++ [x]) b rest (i : Int)) (m : Int) = x := by
      have := insd_prev a' b rest x (i : Int)
      rw [al] at this; exact this
    have xm := (hm x).1 (by simp)
    have gj : (0 : Int) ≤ ((m + 1 : Nat) : Int) ∧ ((m + 1 : Nat) : Int) < ((insd (a' ++ [x]) b rest (i : Int)).length : Int) := ⟨by omega, by omega⟩
    have gp : (0 : Int) ≤ (m : Int) ∧ (m : Int) < ((insd (a' ++ [x]) b rest (i : Int)).length : Int) := ⟨by omega, by omega⟩
    rw [loop2_succ, slices_insertionSortCmpFunc_int.b1]
    unfold jn; dsimp only
    rw [decide_eq_true (by omega), cond_true, gd gj, e1, gd (show inR (m : Int) from inR_small15 (by omega)), gd gp, rj, rp, hf _ _ (by omega) (by omega) xm.1 (by omega), Option.bind_some]
    by_cases lt : lx (key4 h.fGraph P (i : Int)) (key4 h.fGraph P x) < 0
    · rw [decide_eq_true lt, cond_true, gd (show inR (m : Int) from inR_small15 (by omega)), gd (show inR (m : Int) from inR_small15 (by omega)), gd gp, gd gj, gd gj, gd ⟨gp.1, by rw [List.length_set]; exact gp.2⟩, gd (show inR (m : Int) from inR_small15 (by omega))]
      have sw := insd_swap a' b rest x (i : Int)
      rw [al] at sw
      rw [Int.toNat_natCast, Int.toNat_natCast, sw]
      refine ihm a' (x :: b) al (by rw [← hl]; simp) (by rw [List.append_assoc] at hs; exact hs) (fun y => by rw [← hm y]; simp) (fun y hy => ?_) q' (by omega)
      rcases List.mem_cons.1 hy with rfl | hy
      · exact lt
      · exact hb y hy
    · rw [decide_eq_false lt, cond_false]
      have kx : klt h.fGraph P x (i : Int) := klt_eq lt xm.2
      refine stop (a' ++ [x]) b hl hs hm hb fun y hy => ?_
      rcases List.mem_append.1 hy with hy | hy
      · have := List.pairwise_append.1 hs
        have := List.pairwise_append.1 this.1
        have hyx := this.2.2 y hy x (by simp)
        unfold klt at *
        exact lx_trans hyx kx
      · rw [List.mem_singleton] at hy; subst hy; exact kx
end Go.Proofs.YthmdmchmmgmblaaGreat

namespace Go.Proofs.YthmdmchmmgmblaaGreat
open Go Go.Abs Go.Abs.CT
attribute [local irreducible] inR
variable {t : Types} {h : Host}

def ints (n : Nat) : List Int := (List.range n).map fun i : Nat => (i : Int)
theorem ints_succ (n : Nat) : ints (n + 1) = ints n ++ [(n : Int)] := by unfold ints; rw [List.range_succ, List.map_append]; rfl
theorem ints_len (n : Nat) : (ints n).length = n := by unfold ints; simp
theorem rd_range15 {α : Type} [Inhabited α] (f : Nat → α) {n i : Nat} (h : i < n) : rd ((List.range n).map f) (i : Int) = f i := by
  rw [rd_get1' (by simpa using h)]; simp
theorem mem_ints {n : Nat} {x : Int} : x ∈ ints n ↔ 0 ≤ x ∧ x < (n : Int) := by
  unfold ints
  rw [List.mem_map]
  constructor
  · rintro ⟨i, hi, rfl⟩
    have := List.mem_range.1 hi
    omega
  · intro q
    exact ⟨x.toNat, List.mem_range.2 (by omega), by omega⟩
theorem ints_split {m i : Nat} (hi : i < m) : ints m = ints i ++ (i : Int) :: (ints m).drop (i + 1) := by
  have hl : i < (ints m).length := by rw [ints_len]; exact hi
  have e : (ints m)[i] = (i : Int) := by rw [← rd_get1' hl]; exact rd_range15 _ hi
  have e2 : (ints m).take i = ints i := by unfold ints; rw [← List.map_take, List.take_range, Nat.min_eq_left (by omega)]
  rw [← e, ← e2, List.getElem_cons_drop, List.take_append_drop]
/-- The edges, listed. -/
structure Listed (h : Host) (P s : List Int) : Prop where
  sorted : s.Pairwise (klt h.fGraph P)
  mem : ∀ x, x ∈ s ↔ 0 ≤ x ∧ x < (h.fGraph.fEdges.length : Int)
theorem Listed.uniq {P s s' : List Int} (a : Listed h P s) (b : Listed h P s') : s = s' :=
  sorted_mem (klt_as h.fGraph P) (fun x => by rw [a.mem, b.mem]) a.sorted b.sorted
theorem insort_out {k : Nat} (hk : 100 ≤ k) (c : Can t h) {P : List Int} (hP : P.length = h.fGraph.fNodes.length) (fn : (Int × Int) → Option Int)
    (hf : ∀ a b : Int, 0 ≤ a → a < (h.fGraph.fEdges.length : Int) → 0 ≤ b → b < (h.fGraph.fEdges.length : Int) → fn (a, b) = some (lx (key4 h.fGraph P a) (key4 h.fGraph P b))) :
    Out (slices_insertionSortCmpFunc_int k (ints h.fGraph.fEdges.length) 0 (h.fGraph.fEdges.length : Int) fn) (fun r => Listed h P r ∧ r.length = h.fGraph.fEdges.length) := by
  have e20 := c.e20
  have z1 : (0 : Int) + 1 = ((1 : Nat) : Int) := rfl
  unfold slices_insertionSortCmpFunc_int
  rw [gd (show inR (0 + 1) by unfold inR; omega), z1]
  rcases Nat.eq_zero_or_pos h.fGraph.fEdges.length with e0 | e0
  · obtain ⟨k', rfl⟩ : ∃ z, k = z + 1 := ⟨k - 1, by omega⟩
    rw [loop2_succ, slices_insertionSortCmpFunc_int.b0, decide_eq_false (by omega), cond_false]
    refine ⟨_, rfl, ⟨?_, fun x => mem_ints⟩, ints_len _⟩
    rw [e0]; exact List.Pairwise.nil
  · refine loop2_out (P := fun _ _ r => Listed h P r ∧ r.length = h.fGraph.fEdges.length) (I := fun d i => 1 ≤ i ∧ ∃ s : List Int, d = s ++ (ints h.fGraph.fEdges.length).drop i ∧ s.Pairwise (klt h.fGraph P) ∧ (∀ x, x ∈ s ↔ 0 ≤ x ∧ x < (i : Int)) ∧ s.length = i) h.fGraph.fEdges.length (fun d hI rec => ?_) (fun d i hi hI rec ih => ?_) k 1 _ (by omega) (by omega) ?_
    · obtain ⟨_, s, rfl, h1, h2, h3⟩ := hI
      have de : (ints h.fGraph.fEdges.length).drop h.fGraph.fEdges.length = [] := List.drop_of_length_le (by rw [ints_len]; omega)
      rw [slices_insertionSortCmpFunc_int.b0, decide_eq_false (by omega), cond_false, de, List.append_nil]
      exact ⟨s, rfl, ⟨h1, h2⟩, h3⟩
    · obtain ⟨i1, s, rfl, h1, h2, h3⟩ := hI
      have hd : (ints h.fGraph.fEdges.length).drop i = (i : Int) :: (ints h.fGraph.fEdges.length).drop (i + 1) := by
        have := drop_rdA (l := ints h.fGraph.fEdges.length) (i := i) (by rw [ints_len]; exact hi)
        rw [this]
        have e : rd (ints h.fGraph.fEdges.length) (i : Int) = (i : Int) := by unfold ints; rw [rd_range15 _ hi]
        rw [e]
      have ed : s ++ (ints h.fGraph.fEdges.length).drop i = insd s [] ((ints h.fGraph.fEdges.length).drop (i + 1)) (i : Int) := by rw [hd]; unfold insd; simp
      rw [slices_insertionSortCmpFunc_int.b0, decide_eq_true (by omega), cond_true, ed]
      exact insert_out (R := fun r => Listed h P r ∧ r.length = h.fGraph.fEdges.length) c hP (k := k) (by omega) hi rec fn hf (fun s' q1 q2 q3 => ih _ ⟨by omega, s', rfl, q1, q2, q3⟩) i s [] h3 (by rw [List.append_nil]; exact h3) (by rw [List.append_nil]; exact h1) (fun x => by rw [List.append_nil]; exact h2 x) (fun y hy => by cases hy) k (by omega)
    · refine ⟨Nat.le_refl 1, [0], ?_, by simp, fun x => ?_, rfl⟩
      · have := ints_split e0
        rw [this]
        have : ints 0 = [] := rfl
        rw [this]; simp
      · rw [List.mem_singleton]; omega
theorem SortStable_out {k : Nat} (hk : 100 ≤ k) (c : Can t h) {P : List Int} (hP : P.length = h.fGraph.fNodes.length) (fn : (Int × Int) → Option Int)
    (hf : ∀ a b : Int, 0 ≤ a → a < (h.fGraph.fEdges.length : Int) → 0 ≤ b → b < (h.fGraph.fEdges.length : Int) → fn (a, b) = some (lx (key4 h.fGraph P a) (key4 h.fGraph P b))) :
    Out (slices_SortStableFunc_int k (ints h.fGraph.fEdges.length) fn) (Listed h P) := by
  have e20 := c.e20
  obtain ⟨k', rfl⟩ : ∃ z, k = z + 3 := ⟨k - 3, by omega⟩
  unfold slices_SortStableFunc_int slices_stableCmpFunc_int
  rw [ints_len]
  obtain ⟨r, er, hr, hl⟩ := insort_out (k := k' + 3) (by omega) c hP fn hf
  have tail : ∀ d : List Int, loop1 (k' + 3) (slices_stableCmpFunc_int.b1 (k' + 3) (h.fGraph.fEdges.length : Int) d) 20 = some d := fun d => by
    show slices_stableCmpFunc_int.b1 (k' + 3) (h.fGraph.fEdges.length : Int) d (loop1 (k' + 2) _) 20 = some d
    rw [slices_stableCmpFunc_int.b1, decide_eq_false (by omega), cond_false]
  rcases Nat.lt_or_ge h.fGraph.fEdges.length 20 with q | q
  · show Out ((slices_stableCmpFunc_int.b0 (k' + 3) (h.fGraph.fEdges.length : Int) fn (loop3 (k' + 2) _) (ints h.fGraph.fEdges.length) 0 20).bind fun t100 => some t100) _
    rw [slices_stableCmpFunc_int.b0, decide_eq_false (by omega), cond_false, er, Option.bind_some, tail, Option.bind_some]
    exact ⟨r, rfl, hr⟩
  · have e : h.fGraph.fEdges.length = 20 := by omega
    have e' : (h.fGraph.fEdges.length : Int) = 20 := by omega
    rw [e'] at er tail
    rw [e']
    have empty : slices_insertionSortCmpFunc_int (k' + 3) r 20 20 fn = some r := by
      unfold slices_insertionSortCmpFunc_int
      rw [gd (show inR (20 + 1) by unfold inR; omega)]
      show slices_insertionSortCmpFunc_int.b0 (k' + 3) 20 20 fn (loop2 (k' + 2) _) r (20 + 1) = some r
      rw [slices_insertionSortCmpFunc_int.b0, decide_eq_false (by omega), cond_false]
    show Out ((slices_stableCmpFunc_int.b0 (k' + 3) 20 fn (loop3 (k' + 2) _) (ints h.fGraph.fEdges.length) 0 20).bind fun t100 => some t100) _
    rw [slices_stableCmpFunc_int.b0, decide_eq_true (by omega), cond_true, er, Option.bind_some, gd (show inR (20 + 20) by unfold inR; omega)]
    show Out ((slices_stableCmpFunc_int.b0 (k' + 3) 20 fn (loop3 (k' + 1) _) r 20 (20 + 20)).bind fun t100 => some t100) _
    rw [slices_stableCmpFunc_int.b0, decide_eq_false (by omega), cond_false, empty, Option.bind_some, tail, Option.bind_some]
    exact ⟨r, rfl, hr⟩
theorem listedEdges_out {k : Nat} (hk : 200 ≤ k) (c : Can t h) {P : List Int} (hP : P.length = h.fGraph.fNodes.length) : Out (host_listedEdges k h.fGraph P) (Listed h P) := by
  have lm : 5000 ≤ lim := by decide
  have e20 := c.e20
  unfold host_listedEdges
  refine loop2_out (P := fun _ _ r => Listed h P r) (I := fun s i => s = ints i) h.fGraph.fEdges.length (fun s hI rec => ?_) (fun s i hi hI rec ih => ?_) k 0 [] (Nat.zero_le _) (by omega) rfl
  · subst hI
    obtain ⟨r, er, hr⟩ := SortStable_out (k := k) (by omega) c hP (fun x => host_listedEdges_2 k x.1 x.2 (fun x => host_listedEdges_1 k x h.fGraph P)) (fun a b a0 a1 b0 b1 => cmp_key (k := k) (by omega) c hP a0 a1 b0 b1)
    rw [host_listedEdges.b0, decide_eq_false (show ¬ (h.fGraph.fEdges.length : Int) < (h.fGraph.fEdges.length : Int) by omega), cond_false, er, Option.bind_some]
    exact ⟨r, rfl, hr⟩
  · subst hI
    rw [host_listedEdges.b0, decide_eq_true (show (i : Int) < (h.fGraph.fEdges.length : Int) by omega), cond_true, gd (show _ ≤ lim by rw [ints_len, List.length_singleton]; omega), gd (inR_nat (n := i) (by omega))]
    exact ih _ (ints_succ i).symm
/-! ### The blocks -/
def blocks (g : Graph) (O : List Int) : List Int := (List.range O.length).flatMap fun k => se g (O.take k) (rd O (k : Int))
/-- The places of an order. -/
structure IsPos (n : Nat) (O P : List Int) : Prop where
  len : P.length = n
  at_ : ∀ k : Nat, k < O.length → rd P (rd O (k : Int)) = (k : Int)
theorem full_at {H : Hst} {O : List Int} (F : Full H O) {x : Int} (hx : Mem H x) : ∃ k : Nat, k < O.length ∧ rd O (k : Int) = x := by
  have hm : x ∈ O := Classical.byContradiction fun hn => by
    have := (F.toPre.snoc hx hn).le
    rw [List.length_append, F.len, List.length_singleton] at this; omega
  obtain ⟨k, hk, rfl⟩ := List.mem_iff_getElem.1 hm
  exact ⟨k, hk, rd_get1' hk⟩
theorem take_ints {O : List Int} {k : Nat} (hk : k ≤ O.length) : O.take k = (List.range k).map fun j : Nat => rd O (j : Int) := by
  induction k with
  | zero => simp
  | succ k ih => rw [take_rdA (by omega), ih (by omega), List.range_succ, List.map_append]; rfl
theorem key_of {g : Graph} {P : List Int} {e i j : Int} {a b : Int} (hf : (rd g.fEdges e).fFrom = i) (ht : (rd g.fEdges e).fTo = j) (hi : rd P i = a) (hj : rd P j = b) :
    key4 g P e = if a < b then [b, a, 0, tyE g e] else if a > b then [a, b, 1, tyE g e] else [b, 8, 0, tyE g e] := by
  unfold key4 kt
  rw [hf, ht, hi, hj]
  split
  · rfl
  · split <;> rfl
theorem klt_of3 {g : Graph} {P : List Int} {x y : Int} {p q r p' q' r' : Int} (kx : key4 g P x = [p, q, r, tyE g x]) (ky : key4 g P y = [p', q', r', tyE g y])
    (hlt : p < p' ∨ (p = p' ∧ (q < q' ∨ (q = q' ∧ (r < r' ∨ (r = r' ∧ tlt g x y)))))) : klt g P x y := by
  unfold klt
  rw [kx, ky]
  show lx [p, q, r, tyE g x, x] [p', q', r', tyE g y, y] < 0
  unfold tlt at hlt
  rw [lx_cons, lx_cons, lx_cons, lx_cons, lx_cons, lx_nn]
  repeat' split
  all_goals omega
theorem blocks_listed (c : Can t h) {O P : List Int} (F : Full (hs h) O) (ip : IsPos h.fGraph.fNodes.length O P) : Listed h P (blocks h.fGraph O) := by
  have hn : O.length = h.fGraph.fNodes.length := F.len
  have n8 := c.n8
  have he : h.fGraph.fEdges.length ≤ 90 := by have := c.e20; omega
  have kk : ∀ (j k : Nat), j < k → k < O.length → ∀ e ∈ be h.fGraph (rd O (j : Int)) (rd O (k : Int)), key4 h.fGraph P e = [(k : Int), (j : Int), 0, tyE h.fGraph e] := fun j k hjk hk e hm => by
    obtain ⟨_, _, q1, q2⟩ := (be_btw he _ _).mem.1 hm
    rw [key_of q1 q2 (ip.at_ j (by omega)) (ip.at_ k hk), if_pos (by omega)]
  have kb : ∀ (j k : Nat), j < k → k < O.length → ∀ e ∈ be h.fGraph (rd O (k : Int)) (rd O (j : Int)), key4 h.fGraph P e = [(k : Int), (j : Int), 1, tyE h.fGraph e] := fun j k hjk hk e hm => by
    obtain ⟨_, _, q1, q2⟩ := (be_btw he _ _).mem.1 hm
    rw [key_of q1 q2 (ip.at_ k hk) (ip.at_ j (by omega)), if_neg (by omega), if_pos (by omega)]
  have kl : ∀ (k : Nat), k < O.length → ∀ e ∈ be h.fGraph (rd O (k : Int)) (rd O (k : Int)), key4 h.fGraph P e = [(k : Int), 8, 0, tyE h.fGraph e] := fun k hk e hm => by
    obtain ⟨_, _, q1, q2⟩ := (be_btw he _ _).mem.1 hm
    rw [key_of q1 q2 (ip.at_ k hk) (ip.at_ k hk), if_neg (by omega), if_neg (by omega)]
  have sek : ∀ k : Nat, k ≤ O.length → se h.fGraph (O.take k) (rd O (k : Int)) = ((List.range k).flatMap fun j : Nat => be h.fGraph (rd O (j : Int)) (rd O (k : Int)) ++ be h.fGraph (rd O (k : Int)) (rd O (j : Int))) ++ be h.fGraph (rd O (k : Int)) (rd O (k : Int)) := fun k hk => by
    unfold se; rw [take_ints hk, List.flatMap_map]
  have inner : ∀ (k : Nat), k < O.length → ∀ e ∈ se h.fGraph (O.take k) (rd O (k : Int)), ∃ q r, key4 h.fGraph P e = [(k : Int), q, r, tyE h.fGraph e] := fun k hk e hm => by
    rw [sek k (by omega)] at hm
    rcases List.mem_append.1 hm with hm | hm
    · obtain ⟨j, hj, hm⟩ := List.mem_flatMap.1 hm
      have hj := List.mem_range.1 hj
      rcases List.mem_append.1 hm with hm | hm
      · exact ⟨_, _, kk j k hj hk e hm⟩
      · exact ⟨_, _, kb j k hj hk e hm⟩
    · exact ⟨_, _, kl k hk e hm⟩
  refine ⟨?_, fun e => ⟨fun hm => ?_, fun hm => ?_⟩⟩
  · unfold blocks
    rw [List.pairwise_flatMap]
    refine ⟨fun k hk => ?_, ?_⟩
    · have hk := List.mem_range.1 hk
      rw [sek k (by omega), List.pairwise_append, List.pairwise_flatMap]
      refine ⟨⟨fun j hj => ?_, ?_⟩, ?_, ?_⟩
      · have hj := List.mem_range.1 hj
        rw [List.pairwise_append]
        refine ⟨?_, ?_, fun x hx y hy => klt_of3 (kk j k hj hk x hx) (kb j k hj hk y hy) (by omega)⟩
        · exact List.Pairwise.imp_of_mem (fun hx hy hxy => klt_of3 (kk j k hj hk _ hx) (kk j k hj hk _ hy) (.inr ⟨rfl, .inr ⟨rfl, .inr ⟨rfl, hxy⟩⟩⟩)) (be_btw he _ _).sorted
        · exact List.Pairwise.imp_of_mem (fun hx hy hxy => klt_of3 (kb j k hj hk _ hx) (kb j k hj hk _ hy) (.inr ⟨rfl, .inr ⟨rfl, .inr ⟨rfl, hxy⟩⟩⟩)) (be_btw he _ _).sorted
      · refine List.Pairwise.imp_of_mem (fun {j j'} hj hj' hlt x hx y hy => ?_) (List.pairwise_lt_range (n := k))
        have hj := List.mem_range.1 hj; have hj' := List.mem_range.1 hj'
        rcases List.mem_append.1 hx with hx | hx
        · rcases List.mem_append.1 hy with hy | hy
          · exact klt_of3 (kk j k hj hk x hx) (kk j' k hj' hk y hy) (by omega)
          · exact klt_of3 (kk j k hj hk x hx) (kb j' k hj' hk y hy) (by omega)
        · rcases List.mem_append.1 hy with hy | hy
          · exact klt_of3 (kb j k hj hk x hx) (kk j' k hj' hk y hy) (by omega)
          · exact klt_of3 (kb j k hj hk x hx) (kb j' k hj' hk y hy) (by omega)
      · exact List.Pairwise.imp_of_mem (fun hx hy hxy => klt_of3 (kl k hk _ hx) (kl k hk _ hy) (.inr ⟨rfl, .inr ⟨rfl, .inr ⟨rfl, hxy⟩⟩⟩)) (be_btw he _ _).sorted
      · intro x hx y hy
        obtain ⟨j, hj, hx⟩ := List.mem_flatMap.1 hx
        have hj := List.mem_range.1 hj
        rcases List.mem_append.1 hx with hx | hx
        · exact klt_of3 (kk j k hj hk x hx) (kl k hk y hy) (by omega)
        · exact klt_of3 (kb j k hj hk x hx) (kl k hk y hy) (by omega)
    · refine List.Pairwise.imp_of_mem (fun {k k'} hk hk' hlt x hx y hy => ?_) (List.pairwise_lt_range (n := O.length))
      have hk := List.mem_range.1 hk; have hk' := List.mem_range.1 hk'
      obtain ⟨q, r, kx⟩ := inner k hk x hx
      obtain ⟨q', r', ky⟩ := inner k' hk' y hy
      exact klt_of3 kx ky (by omega)
  · unfold blocks at hm
    obtain ⟨k, _, hm⟩ := List.mem_flatMap.1 hm
    unfold se at hm
    rcases List.mem_append.1 hm with hm | hm
    · obtain ⟨j, _, hm⟩ := List.mem_flatMap.1 hm
      rcases List.mem_append.1 hm with hm | hm
      · have := (be_btw he _ _).mem.1 hm; exact ⟨this.1, this.2.1⟩
      · have := (be_btw he _ _).mem.1 hm; exact ⟨this.1, this.2.1⟩
    · have := (be_btw he _ _).mem.1 hm; exact ⟨this.1, this.2.1⟩
  · obtain ⟨_, mf, mt⟩ := c.edge hm.1 hm.2
    obtain ⟨j, hj, ej⟩ := full_at F mf
    obtain ⟨k, hk, ek⟩ := full_at F mt
    have inb : e ∈ be h.fGraph (rd O (j : Int)) (rd O (k : Int)) := (be_btw he _ _).mem.2 ⟨hm.1, hm.2, ej.symm, ek.symm⟩
    unfold blocks
    rw [List.mem_flatMap]
    rcases Nat.lt_trichotomy j k with q | q | q
    · refine ⟨k, List.mem_range.2 hk, ?_⟩
      rw [sek k (by omega)]
      exact List.mem_append_left _ (List.mem_flatMap.2 ⟨j, List.mem_range.2 q, List.mem_append_left _ inb⟩)
    · subst q
      refine ⟨j, List.mem_range.2 hj, ?_⟩
      rw [sek j (by omega)]
      exact List.mem_append_right _ inb
    · refine ⟨j, List.mem_range.2 hj, ?_⟩
      rw [sek j (by omega)]
      exact List.mem_append_left _ (List.mem_flatMap.2 ⟨k, List.mem_range.2 q, List.mem_append_right _ inb⟩)
theorem listedEdges_eq {k : Nat} (hk : 200 ≤ k) (c : Can t h) {O P : List Int} (F : Full (hs h) O) (ip : IsPos h.fGraph.fNodes.length O P) : host_listedEdges k h.fGraph P = some (blocks h.fGraph O) := by
  obtain ⟨r, e, hr⟩ := listedEdges_out hk c ip.len
  rw [e, hr.uniq (blocks_listed c F ip)]
end Go.Proofs.YthmdmchmmgmblaaGreat

namespace Go.Proofs.YthmdmchmmgmblaaGreat
open Go Go.Abs Go.Abs.CT
attribute [local irreducible] inR
variable {t : Types} {h : Host}

/-- Numbers written at the places that a list names, one after the other. -/
def msA : List Int → Nat → List Int → List Int
  | acc, _, [] => acc
  | acc, s, e :: L => msA (acc.set e.toNat (s : Int)) (s + 1) L
theorem msA_snoc : ∀ (L : List Int) (acc : List Int) (s : Nat) (e : Int), msA acc s (L ++ [e]) = (msA acc s L).set e.toNat ((s + L.length : Nat) : Int)
  | [], acc, s, e => rfl
  | x :: L, acc, s, e => by
    show msA (acc.set x.toNat (s : Int)) (s + 1) (L ++ [e]) = (msA (acc.set x.toNat (s : Int)) (s + 1) L).set e.toNat _
    rw [msA_snoc L, List.length_cons, show s + 1 + L.length = s + (L.length + 1) by omega]
theorem msA_len : ∀ (L : List Int) (acc : List Int) (s : Nat), (msA acc s L).length = acc.length
  | [], _, _ => rfl
  | e :: L, acc, s => by
    show (msA (acc.set e.toNat (s : Int)) (s + 1) L).length = _
    rw [msA_len L, List.length_set]
def zer (n : Nat) : List Int := List.replicate n 0
theorem rd_setI15 {x : List Int} {f : Int} (f0 : 0 ≤ f) (f1 : f < (x.length : Int)) (y : Int) {v : Int} (v0 : 0 ≤ v) : rd (x.set f.toNat y) v = if v = f then y else rd x v := by
  by_cases e : v = f
  · subst e; rw [if_pos rfl]; unfold rd; rw [List.getD_eq_getElem?_getD, List.getElem?_set, if_pos rfl, if_pos (by omega)]; rfl
  · rw [if_neg e]; unfold rd; rw [List.getD_eq_getElem?_getD, List.getElem?_set, if_neg (by omega), List.getD_eq_getElem?_getD]
theorem pos_of {n : Nat} {O : List Int} (nd : O.Nodup) (hm : ∀ x ∈ O, 0 ≤ x ∧ x < (n : Int)) : IsPos n O (msA (zer n) 0 O) := by
  refine ⟨by rw [msA_len]; unfold zer; simp, ?_⟩
  have key : ∀ i : Nat, i ≤ O.length → ∀ k : Nat, k < i → rd (msA (zer n) 0 (O.take i)) (rd O (k : Int)) = (k : Int) := by
    intro i
    induction i with
    | zero => intro _ k hk; omega
    | succ i ih =>
      intro hi k hk
      have mi := hm _ (rd_mem (l := O) (x := (i : Int)) (by omega) (by omega))
      have mk := hm _ (rd_mem (l := O) (x := (k : Int)) (by omega) (by omega))
      rw [take_rdA (by omega), msA_snoc, rd_setI15 mi.1 (by rw [msA_len]; unfold zer; rw [List.length_replicate]; exact mi.2) _ mk.1]
      by_cases q : k = i
      · subst q; rw [if_pos rfl, List.length_take]; omega
      · rw [if_neg, ih (by omega) k (by omega)]
        intro e
        rw [rd_get1' (show k < O.length by omega), rd_get1' (show i < O.length by omega)] at e
        exact q ((List.getElem_inj nd).1 e)
  intro k hk
  have := key O.length (Nat.le_refl _) k hk
  rw [List.take_length] at this; exact this
def eF (g : Graph) (P : List Int) (e : Int) : Edge := Edge.mk (rd g.fEdges e).fType (rd P (rd g.fEdges e).fFrom) (rd P (rd g.fEdges e).fTo)
def canP (h : Host) (O : List Int) : List Int := msA (zer h.fGraph.fNodes.length) 0 O
def canH (h : Host) (O : List Int) : Host := Host.mk (Graph.mk (O.map fun x => rd h.fGraph.fNodes x) ((blocks h.fGraph O).map (eF h.fGraph (canP h O)))) (O.map fun x => rd h.fValues x)
def canR (h : Host) (O : List Int) : Host × Morphism × Int := (canH h O, Morphism.mk (canP h O) (msA (zer h.fGraph.fEdges.length) 0 (blocks h.fGraph O)), 0)
theorem canP_pos (h : Host) {O : List Int} (F : Full (hs h) O) : IsPos h.fGraph.fNodes.length O (canP h O) := pos_of F.nd fun x hx => F.mem x hx
theorem blocks_len (c : Can t h) {O : List Int} (F : Full (hs h) O) : (blocks h.fGraph O).length = h.fGraph.fEdges.length := by
  have L := blocks_listed c F (canP_pos h F)
  have nd : (blocks h.fGraph O).Nodup := L.sorted.imp fun {a b} hab e => by subst e; exact klt_as _ _ _ _ hab hab
  have h1 := len_le nd (m := ints h.fGraph.fEdges.length) fun x hx => mem_ints.2 ((L.mem x).1 hx)
  have ndi : (ints h.fGraph.fEdges.length).Nodup := by unfold ints; exact List.Pairwise.map _ (fun a b q e => q (by omega)) List.nodup_range
  have h2 := len_le ndi (m := blocks h.fGraph O) fun x hx => (L.mem x).2 (mem_ints.1 hx)
  rw [ints_len] at h1 h2; omega
theorem host_valid_e {k : Nat} (hk : 1000 ≤ k) (ht : FewT t) (hh : FewG h.fGraph) : host_valid k t h = some (hostV t h).2 := by
  unfold host_valid
  rw [(host_valid2 hk ht hh).1, Option.bind_some]
theorem host_canonical_eq {k : Nat} (hk : 6000 ≤ k) (c : Can t h) (n7 : h.fGraph.fNodes.length ≤ 7) {O : List Int} (F : First (hs h) O) (hsr : Out (host_canon_search k (Canon.mk h [] [] [] [] false)) (fun r => r.2.2.1 = O)) : host_Canonical k t h = some (canR h O) := by
  have lm : 5000 ≤ lim := by decide
  have fo := F.full
  have hn : O.length = h.fGraph.fNodes.length := fo.len
  have e20 := c.e20
  have ip := canP_pos h fo
  have bl := blocks_len c fo
  have vl := c.ok.len
  obtain ⟨s, es, rfl⟩ := hsr
  unfold host_Canonical
  rw [host_valid_e (by omega) c.few c.fh.graph, c.e0, Option.bind_some, bne_self_eq_false, cond_false, decide_eq_false (by omega), cond_false, es, Option.bind_some]
  unfold jn; dsimp only
  rw [gd ⟨by omega, by omega⟩, gd ⟨by omega, by omega⟩, hn, Int.toNat_natCast]
  refine (loop4_out (P := fun r => r = canR h s.2.2.1) (I := fun y0 y2 x i => y0 = (s.2.2.1.take i).map (fun x => rd h.fGraph.fNodes x) ∧ y2 = (s.2.2.1.take i).map (fun x => rd h.fValues x) ∧ x = msA (zer h.fGraph.fNodes.length) 0 (s.2.2.1.take i)) s.2.2.1.length (fun y0 y2 x hI rec => ?_) (fun y0 y2 x i hi hI rec ih => ?_) k 0 _ _ _ (Nat.zero_le _) (by omega) ⟨rfl, rfl, rfl⟩).eq
  · obtain ⟨rfl, rfl, rfl⟩ := hI
    rw [List.take_length, host_Canonical.b0, decide_eq_false (show ¬ (s.2.2.1.length : Int) < (s.2.2.1.length : Int) by omega), cond_false]
    have le := listedEdges_eq (k := k) (by omega) c fo ip
    unfold canP at le
    rw [le, Option.bind_some, Int.toNat_natCast]
    refine loop3_out (P := fun r => r = canR h s.2.2.1) (I := fun y1 x i => y1 = ((blocks h.fGraph s.2.2.1).take i).map (eF h.fGraph (canP h s.2.2.1)) ∧ x = msA (zer h.fGraph.fEdges.length) 0 ((blocks h.fGraph s.2.2.1).take i)) (blocks h.fGraph s.2.2.1).length (fun y1 x hI rec1 => ?_) (fun y1 x i hi hI rec1 ih1 => ?_) k 0 _ _ (Nat.zero_le _) (by omega) ⟨rfl, rfl⟩
    · obtain ⟨rfl, rfl⟩ := hI
      rw [List.take_length, host_Canonical.b1, decide_eq_false (show ¬ ((blocks h.fGraph s.2.2.1).length : Int) < ((blocks h.fGraph s.2.2.1).length : Int) by omega), cond_false]
      exact ⟨_, rfl, rfl⟩
    · obtain ⟨rfl, rfl⟩ := hI
      have gi : (0 : Int) ≤ (i : Int) ∧ (i : Int) < ((blocks h.fGraph s.2.2.1).length : Int) := ⟨by omega, by omega⟩
      have me := ((blocks_listed c fo ip).mem _).1 (rd_mem (l := blocks h.fGraph s.2.2.1) gi.1 gi.2)
      obtain ⟨_, mf, mt⟩ := c.edge me.1 me.2
      have mf' : 0 ≤ (rd h.fGraph.fEdges (rd (blocks h.fGraph s.2.2.1) (i : Int))).fFrom ∧ (rd h.fGraph.fEdges (rd (blocks h.fGraph s.2.2.1) (i : Int))).fFrom < (h.fGraph.fNodes.length : Int) := mf
      have mt' : 0 ≤ (rd h.fGraph.fEdges (rd (blocks h.fGraph s.2.2.1) (i : Int))).fTo ∧ (rd h.fGraph.fEdges (rd (blocks h.fGraph s.2.2.1) (i : Int))).fTo < (h.fGraph.fNodes.length : Int) := mt
      have pl : (msA (zer h.fGraph.fNodes.length) 0 s.2.2.1).length = h.fGraph.fNodes.length := ip.len
      rw [host_Canonical.b1, decide_eq_true gi.2, cond_true, gd gi, gd me, gd ⟨me.1, by rw [msA_len]; unfold zer; rw [List.length_replicate]; exact me.2⟩, gd ⟨mf'.1, by rw [pl]; exact mf'.2⟩, gd ⟨mt'.1, by rw [pl]; exact mt'.2⟩, gd (show _ ≤ lim by rw [List.length_map, List.length_take, List.length_singleton]; omega), gd (inR_nat (n := i) (by omega))]
      refine ih1 _ _ ⟨?_, ?_⟩
      · rw [take_rdA hi, List.map_append]; rfl
      · rw [take_rdA hi, msA_snoc, List.length_take, Nat.zero_add, Nat.min_eq_left (by omega)]
  · obtain ⟨rfl, rfl, rfl⟩ := hI
    have gi : (0 : Int) ≤ (i : Int) ∧ (i : Int) < (s.2.2.1.length : Int) := ⟨by omega, by omega⟩
    have mx := fo.mem _ (rd_mem (l := s.2.2.1) gi.1 gi.2)
    obtain ⟨g1, g2⟩ := Can.gx vl mx
    have vlen := c.lab_len mx
    rw [host_Canonical.b0, decide_eq_true gi.2, cond_true, gd gi, gd ⟨g1.1, by rw [msA_len]; unfold zer; rw [List.length_replicate]; exact g1.2⟩, gd g1, gd (show _ ≤ lim by rw [List.length_map, List.length_take, List.length_singleton]; omega), gd g2]
    unfold slices_Clone_int
    rw [if_pos (show (rd h.fValues (rd s.2.2.1 (i : Int))).length ≤ lim by omega), Option.bind_some, gd (show _ ≤ lim by rw [List.length_map, List.length_take, List.length_singleton]; omega), gd (inR_nat (n := i) (by omega))]
    refine ih _ _ _ ⟨?_, ?_, ?_⟩
    · rw [take_rdA hi, List.map_append]; rfl
    · rw [take_rdA hi, List.map_append]; rfl
    · rw [take_rdA hi, msA_snoc, List.length_take, Nat.zero_add, Nat.min_eq_left (by omega)]
theorem blocks_succ (g : Graph) (O : List Int) (i : Nat) : (List.range (i + 1)).flatMap (fun k : Nat => se g (O.take k) (rd O (k : Int))) = (List.range i).flatMap (fun k : Nat => se g (O.take k) (rd O (k : Int))) ++ se g (O.take i) (rd O (i : Int)) := by
  rw [List.range_succ, List.flatMap_append]; simp
theorem ref_canonical_eq {k : Nat} (hk : 6000 ≤ k) (c : Can t h) (n7 : h.fGraph.fNodes.length ≤ 7) {O : List Int} (F : First (hs h) O) : ref15_Canonical k t h = some (canR h O) := by
  have lm : 5000 ≤ lim := by decide
  have fo := F.full
  have hn : O.length = h.fGraph.fNodes.length := fo.len
  have e20 := c.e20
  have ip := canP_pos h fo
  have bl := blocks_len c fo
  have vl := c.ok.len
  unfold ref15_Canonical ref15_small
  rw [(host_valid2 (k := k) (by omega) c.few c.fh.graph).2, Option.bind_some, c.e0, bne_self_eq_false, cond_false, decide_eq_false (by omega), cond_false, Option.bind_some, bne_self_eq_false, cond_false, canon_order (by omega) c n7 F, Option.bind_some]
  unfold jn; dsimp only
  rw [gd ⟨by omega, by omega⟩, gd ⟨by omega, by omega⟩, Int.toNat_natCast]
  refine (loop4_out (P := fun r => r = canR h O) (I := fun x y0 y2 i => y0 = (O.take i).map (fun x => rd h.fGraph.fNodes x) ∧ y2 = (O.take i).map (fun x => rd h.fValues x) ∧ x = msA (zer h.fGraph.fNodes.length) 0 (O.take i)) O.length (fun x y0 y2 hI rec => ?_) (fun x y0 y2 i hi hI rec ih => ?_) k 0 _ _ _ (Nat.zero_le _) (by omega) ⟨rfl, rfl, rfl⟩).eq
  · obtain ⟨rfl, rfl, rfl⟩ := hI
    have pre : ∀ i, i ≤ O.length → ((List.range i).flatMap (fun k : Nat => se h.fGraph (O.take k) (rd O (k : Int)))).length ≤ h.fGraph.fEdges.length := fun i hi => by
      rw [← bl]
      unfold blocks
      obtain ⟨d, hd⟩ : ∃ d, O.length = i + d := ⟨O.length - i, by omega⟩
      rw [hd, List.range_add, List.flatMap_append, List.length_append]; omega
    rw [List.take_length, ref15_Canonical.b0, decide_eq_false (show ¬ (O.length : Int) < (O.length : Int) by omega), cond_false, Int.toNat_natCast]
    refine loop3_out (P := fun r => r = canR h O) (I := fun x y1 i => y1 = ((List.range i).flatMap (fun k : Nat => se h.fGraph (O.take k) (rd O (k : Int)))).map (eF h.fGraph (canP h O)) ∧ x = msA (zer h.fGraph.fEdges.length) 0 ((List.range i).flatMap (fun k : Nat => se h.fGraph (O.take k) (rd O (k : Int))))) O.length (fun x y1 hI rec1 => ?_) (fun x y1 i hi hI rec1 ih1 => ?_) k 0 _ _ (Nat.zero_le _) (by omega) ⟨rfl, rfl⟩
    · obtain ⟨rfl, rfl⟩ := hI
      rw [ref15_Canonical.b1, decide_eq_false (show ¬ (O.length : Int) < (O.length : Int) by omega), cond_false]
      exact ⟨_, rfl, rfl⟩
    · obtain ⟨rfl, rfl⟩ := hI
      have gi : (0 : Int) ≤ (i : Int) ∧ (i : Int) < (O.length : Int) := ⟨by omega, by omega⟩
      have mx := fo.mem _ (rd_mem (l := O) gi.1 gi.2)
      have p1 := pre (i + 1) (by omega)
      rw [blocks_succ, List.length_append] at p1
      rw [ref15_Canonical.b1, decide_eq_true gi.2, cond_true, gd ⟨gi.1, by omega⟩, gd gi, Int.toNat_natCast, segment_eq (by omega) c (by rw [List.length_take]; omega) mx, Option.bind_some]
      generalize hS : se h.fGraph (O.take i) (rd O (i : Int)) = S at *
      generalize hB : (List.range i).flatMap (fun k : Nat => se h.fGraph (O.take k) (rd O (k : Int))) = B at *
      have inb : ∀ e ∈ S, 0 ≤ e ∧ e < (h.fGraph.fEdges.length : Int) := fun e he => by
        refine ((blocks_listed c fo ip).mem e).1 ?_
        unfold blocks
        exact List.mem_flatMap.2 ⟨i, List.mem_range.2 hi, by rw [hS]; exact he⟩
      refine loop3_out (P := fun r => r = canR h O) (I := fun x y1 j => y1 = (B ++ S.take j).map (eF h.fGraph (canP h O)) ∧ x = msA (zer h.fGraph.fEdges.length) 0 (B ++ S.take j)) S.length (fun x y1 hI rec2 => ?_) (fun x y1 j hj hI rec2 ih2 => ?_) k 0 _ _ (Nat.zero_le _) (by omega) ⟨by simp, by simp⟩
      · obtain ⟨rfl, rfl⟩ := hI
        rw [List.take_length, ref15_Canonical.b2]
        rw [decide_eq_false (show ¬ (S.length : Int) < ((seg (hs h) (O.take i) (rd O (i : Int)), S).2.length : Int) from fun q => by have q : (S.length : Int) < (S.length : Int) := q; omega), cond_false, gd (inR_nat (n := i) (by omega))]
        refine ih1 _ _ ?_
        rw [blocks_succ, hS, hB]; exact ⟨rfl, rfl⟩
      · obtain ⟨rfl, rfl⟩ := hI
        have gj : (0 : Int) ≤ (j : Int) ∧ (j : Int) < (S.length : Int) := ⟨by omega, by omega⟩
        have me := inb _ (rd_mem (l := S) gj.1 gj.2)
        obtain ⟨_, mf, mt⟩ := c.edge me.1 me.2
        have mf' : 0 ≤ (rd h.fGraph.fEdges (rd S (j : Int))).fFrom ∧ (rd h.fGraph.fEdges (rd S (j : Int))).fFrom < (h.fGraph.fNodes.length : Int) := mf
        have mt' : 0 ≤ (rd h.fGraph.fEdges (rd S (j : Int))).fTo ∧ (rd h.fGraph.fEdges (rd S (j : Int))).fTo < (h.fGraph.fNodes.length : Int) := mt
        have pl : (msA (zer h.fGraph.fNodes.length) 0 O).length = h.fGraph.fNodes.length := ip.len
        have gj' : (0 : Int) ≤ (j : Int) ∧ (j : Int) < ((seg (hs h) (O.take i) (rd O (i : Int)), S).2.length : Int) := gj
        have stl : (S.take j).length = j := by rw [List.length_take]; omega
        rw [ref15_Canonical.b2, decide_eq_true gj'.2, cond_true, gd gj', gd me, gd gj', gd ⟨me.1, by rw [msA_len]; unfold zer; rw [List.length_replicate]; exact me.2⟩, gd ⟨mf'.1, by rw [pl]; exact mf'.2⟩, gd ⟨mt'.1, by rw [pl]; exact mt'.2⟩, gd (show _ ≤ lim by rw [List.length_map, List.length_append, stl, List.length_singleton]; omega), gd (inR_nat (n := j) (by omega))]
        refine ih2 _ _ ⟨?_, ?_⟩
        · rw [take_rdA hj, ← List.append_assoc, List.map_append (f := eF h.fGraph (canP h O)) (l₁ := B ++ S.take j) (l₂ := [rd S (j : Int)])]; rfl
        · rw [take_rdA hj, ← List.append_assoc, msA_snoc, Nat.zero_add, List.length_map]
  · obtain ⟨rfl, rfl, rfl⟩ := hI
    have gi : (0 : Int) ≤ (i : Int) ∧ (i : Int) < (O.length : Int) := ⟨by omega, by omega⟩
    have mx := fo.mem _ (rd_mem (l := O) gi.1 gi.2)
    obtain ⟨g1, g2⟩ := Can.gx vl mx
    have vlen := c.lab_len mx
    rw [ref15_Canonical.b0, decide_eq_true gi.2, cond_true, gd gi, gd ⟨g1.1, by rw [msA_len]; unfold zer; rw [List.length_replicate]; exact g1.2⟩, gd gi, gd g1, gd (show _ ≤ lim by rw [List.length_map, List.length_take, List.length_singleton]; omega), gd gi, gd g2, gd (show _ ≤ lim by omega), gd (show _ ≤ lim by rw [List.length_map, List.length_take, List.length_singleton]; omega), gd (inR_nat (n := i) (by omega))]
    refine ih _ _ _ ⟨?_, ?_, ?_⟩
    · rw [take_rdA hi, List.map_append]; rfl
    · rw [take_rdA hi, List.map_append]; rfl
    · rw [take_rdA hi, msA_snoc, List.length_take, Nat.zero_add, Nat.min_eq_left (by omega)]
end Go.Proofs.YthmdmchmmgmblaaGreat

namespace Go.Proofs.YthmdmchmmgmblaaGreat
open Go Go.Abs Go.Abs.CT
attribute [local irreducible] inR
variable {t : Types} {h : Host}

theorem rd_map15 {α β : Type} [Inhabited α] [Inhabited β] (f : α → β) {l : List α} {j : Nat} (hj : j < l.length) : rd (l.map f) (j : Int) = f (rd l (j : Int)) := by
  rw [rd_get1' (by simpa using hj), rd_get1' hj]; simp
theorem rd_map15I {α β : Type} [Inhabited α] [Inhabited β] (f : α → β) {l : List α} {j : Int} (h0 : 0 ≤ j) (hj : j < (l.length : Int)) : rd (l.map f) j = f (rd l j) := by
  have := rd_map15 f (l := l) (j := j.toNat) (by omega)
  rw [show ((j.toNat : Nat) : Int) = j by omega] at this; exact this
theorem pos_back (c : Can t h) {O : List Int} (F : Full (hs h) O) {x : Int} (hx : Mem (hs h) x) : (0 ≤ rd (canP h O) x ∧ rd (canP h O) x < (O.length : Int)) ∧ rd O (rd (canP h O) x) = x := by
  obtain ⟨k, hk, rfl⟩ := full_at F hx
  rw [(canP_pos h F).at_ k hk]
  exact ⟨⟨by omega, by omega⟩, rfl⟩
/-- As HostP, with more edges. -/
structure HostQ (t : Types) (g : Graph) (vs : List (List Int)) : Prop where
  n8 : g.fNodes.length ≤ 8
  e20 : g.fEdges.length ≤ 20
  len : vs.length = g.fNodes.length
  kind : ∀ j : Nat, j < g.fNodes.length → 0 ≤ rd g.fNodes (j : Int)
  node : ∀ j : Nat, j < g.fNodes.length → nodeV t (rd g.fNodes (j : Int)) (rd vs (j : Int)) = 0
  edge : ∀ x ∈ g.fEdges, (0 ≤ x.fType ∧ x.fType < (t.fEdges.length : Int)) ∧ (0 ≤ x.fFrom ∧ x.fFrom < (g.fNodes.length : Int)) ∧ (0 ≤ x.fTo ∧ x.fTo < (g.fNodes.length : Int)) ∧ fitsB t x.fType (rd g.fNodes x.fFrom) (rd g.fNodes x.fTo) = true
theorem HostQ.ok {g : Graph} {vs : List (List Int)} (hv : validS t = 0) (h : HostQ t g vs) : hostV t (Host.mk g vs) = (-1, 0) := by
  obtain ⟨w, h12, h20⟩ := valid_wf hv
  have n8 := h.n8; have e20 := h.e20
  have ke : ∀ j : Nat, j < g.fEdges.length → _ := fun j hj => h.edge _ (rd_mem (l := g.fEdges) (x := (j : Int)) (by omega) (by omega))
  have good : GoodG g := ⟨by omega, by omega, fun j hj => ⟨h.kind j hj, by have := (node_val (h.node j hj)).1; omega⟩, fun j hj => ⟨(ke j hj).1.1, (ke j hj).2.1, (ke j hj).2.2.1⟩⟩
  have err : graphErr g = 0 := good_graphErr good fun j hj => by have := (ke j hj).1.2; omega
  unfold hostV
  dsimp only
  rw [hv, bne_self_eq_false, cond_false, err, bne_self_eq_false, cond_false, h.len, bne_self_eq_false, cond_false]
  unfold hostN first
  dsimp only
  rw [firstF_z, firstF_z]
  · intro j _ hj
    have hj' : j < g.fEdges.length := by omega
    obtain ⟨⟨a1, a2⟩, -, -, a3⟩ := ke j hj'
    unfold edgeV
    rw [decide_eq_false (by omega), cond_false, a3, cond_true]
  · intro j _ hj
    exact h.node j (by omega)
theorem Can.fits (c : Can t h) {e : Int} (e0 : 0 ≤ e) (e1 : e < (h.fGraph.fEdges.length : Int)) : fitsB t (rd h.fGraph.fEdges e).fType (rd h.fGraph.fNodes (rd h.fGraph.fEdges e).fFrom) (rd h.fGraph.fNodes (rd h.fGraph.fEdges e).fTo) = true := by
  have hv := (host_more c.e0).2 e.toNat (by omega)
  unfold edgeV at hv
  rw [show ((e.toNat : Nat) : Int) = e by omega, decide_eq_false (by have := (c.edge e0 e1).1.2; unfold tyE at this; omega), cond_false] at hv
  cases q : fitsB t (rd h.fGraph.fEdges e).fType (rd h.fGraph.fNodes (rd h.fGraph.fEdges e).fFrom) (rd h.fGraph.fNodes (rd h.fGraph.fEdges e).fTo) with
  | true => rfl
  | false => rw [q] at hv; cases hv
theorem can_can (c : Can t h) {O : List Int} (F : Full (hs h) O) : Can t (canH h O) := by
  have hn : O.length = h.fGraph.fNodes.length := F.len
  have n8 := c.n8; have e20 := c.e20
  have bl := blocks_len c F
  have nl : (canH h O).fGraph.fNodes.length = O.length := List.length_map _
  have el : (canH h O).fGraph.fEdges.length = h.fGraph.fEdges.length := by show ((blocks h.fGraph O).map _).length = _; rw [List.length_map, bl]
  have vl : (canH h O).fValues.length = O.length := List.length_map _
  have rn : ∀ j : Int, 0 ≤ j → j < (O.length : Int) → rd (canH h O).fGraph.fNodes j = rd h.fGraph.fNodes (rd O j) := fun j h0 h1 => rd_map15I _ h0 h1
  have rv : ∀ j : Int, 0 ≤ j → j < (O.length : Int) → rd (canH h O).fValues j = rd h.fValues (rd O j) := fun j h0 h1 => rd_map15I _ h0 h1
  have mo : ∀ j : Nat, j < O.length → Mem (hs h) (rd O (j : Int)) := fun j hj => F.mem _ (rd_mem (by omega) (by omega))
  have Q : HostQ t (canH h O).fGraph (canH h O).fValues := by
    refine ⟨by omega, by omega, by omega, fun j hj => ?_, fun j hj => ?_, fun x hx => ?_⟩
    · rw [rn j (by omega) (by omega)]
      have m := mo j (by omega)
      have m' : 0 ≤ rd O (j : Int) ∧ rd O (j : Int) < (h.fGraph.fNodes.length : Int) := m
      have := (c.ok.graph.kind (rd O (j : Int)).toNat (by omega)).1
      rw [show (((rd O (j : Int)).toNat : Nat) : Int) = rd O (j : Int) by omega] at this; exact this
    · rw [rn j (by omega) (by omega), rv j (by omega) (by omega)]
      exact c.node (mo j (by omega))
    · have hx : x ∈ (blocks h.fGraph O).map (eF h.fGraph (canP h O)) := hx
      obtain ⟨e, he, rfl⟩ := List.mem_map.1 hx
      have me := ((blocks_listed c F (canP_pos h F)).mem e).1 he
      obtain ⟨ty, mf, mt⟩ := c.edge me.1 me.2
      obtain ⟨b1, b2⟩ := pos_back c F mf
      obtain ⟨b3, b4⟩ := pos_back c F mt
      refine ⟨ty, ⟨b1.1, by rw [nl]; exact b1.2⟩, ⟨b3.1, by rw [nl]; exact b3.2⟩, ?_⟩
      show fitsB t (rd h.fGraph.fEdges e).fType (rd (canH h O).fGraph.fNodes (rd (canP h O) (rd h.fGraph.fEdges e).fFrom)) (rd (canH h O).fGraph.fNodes (rd (canP h O) (rd h.fGraph.fEdges e).fTo)) = true
      rw [rn _ b1.1 b1.2, rn _ b3.1 b3.2, b2, b4]
      exact c.fits me.1 me.2
  refine ⟨c.few, by rw [HostQ.ok c.ok.val Q], ⟨⟨by omega, by omega⟩, by omega, fun j hj => ?_⟩, by omega, by omega⟩
  rw [rv j (by omega) (by omega)]
  exact c.lab_len (mo j (by omega))
/-! ### The same code -/
theorem nodup_perm : ∀ {l m : List Int}, l.Nodup → m.Nodup → (∀ x, x ∈ l ↔ x ∈ m) → l.Perm m
  | [], m, _, _, hm => by
    have : m = [] := List.eq_nil_iff_forall_not_mem.2 fun x hx => absurd ((hm x).2 hx) (by simp)
    rw [this]
  | a :: l, m, h1, h2, hm => by
    have h1 := List.nodup_cons.1 h1
    have ha : a ∈ m := (hm a).1 List.mem_cons_self
    refine ((nodup_perm h1.2 (h2.erase a) fun x => ?_).cons a).trans (List.perm_cons_erase ha).symm
    rw [h2.mem_erase_iff]
    constructor
    · intro hx
      exact ⟨by rintro rfl; exact h1.1 hx, (hm x).1 (List.mem_cons_of_mem _ hx)⟩
    · rintro ⟨hne, hx⟩
      rcases List.mem_cons.1 ((hm x).2 hx) with e | q
      · exact absurd e hne
      · exact q
theorem edges_ints (g : Graph) : g.fEdges = (ints g.fEdges.length).map fun e => rd g.fEdges e := by
  refine list_rd (by rw [List.length_map, ints_len]) fun j hj => ?_
  rw [rd_map15 _ (by rw [ints_len]; exact hj)]
  have : rd (ints g.fEdges.length) (j : Int) = (j : Int) := rd_range15 _ hj
  rw [this]
theorem idxL_ints (g : Graph) (i j : Int) (m : Nat) : idxL g i j m = (ints m).filter fun e => (rd g.fEdges e).fFrom == i && (rd g.fEdges e).fTo == j := by
  unfold idxL ints
  rw [List.filter_map]; rfl
theorem tys_filter (g : Graph) (i j : Int) : tys g i j g.fEdges.length = (g.fEdges.filter fun e => e.fFrom == i && e.fTo == j).map fun e => e.fType := by
  unfold tys
  rw [idxL_ints]
  conv => rhs; rw [edges_ints g]
  rw [List.filter_map, List.map_map]; rfl
theorem bt_perm {l m : List Int} (h : l.Perm m) : l.mergeSort (fun x y => decide (x ≤ y)) = m.mergeSort fun x y => decide (x ≤ y) := by
  have srt : ∀ l : List Int, (l.mergeSort fun x y => decide (x ≤ y)).Pairwise (· ≤ ·) := fun l => by
    have := List.pairwise_mergeSort (le := fun x y : Int => decide (x ≤ y)) (fun a b c h1 h2 => by rw [decide_eq_true_eq] at *; omega) (fun a b => by rw [Bool.or_eq_true, decide_eq_true_eq, decide_eq_true_eq]; omega) l
    exact this.imp fun h => of_decide_eq_true h
  exact sorted_uniq_le ((List.mergeSort_perm _ _).trans (h.trans (List.mergeSort_perm _ _).symm)) (srt l) (srt m)
theorem can_bet (c : Can t h) {O : List Int} (F : Full (hs h) O) {i j : Int} (hi : 0 ≤ i ∧ i < (O.length : Int)) (hj : 0 ≤ j ∧ j < (O.length : Int)) : bt h.fGraph (rd O i) (rd O j) = bt (canH h O).fGraph i j := by
  have ip := canP_pos h F
  have L := blocks_listed c F ip
  have ii : rd (canP h O) (rd O i) = i := by
    have := ip.at_ i.toNat (by omega)
    rw [show ((i.toNat : Nat) : Int) = i by omega] at this; exact this
  have jj : rd (canP h O) (rd O j) = j := by
    have := ip.at_ j.toNat (by omega)
    rw [show ((j.toNat : Nat) : Int) = j by omega] at this; exact this
  unfold bt
  rw [tys_filter (canH h O).fGraph]
  refine bt_perm ?_
  have e1 : (canH h O).fGraph.fEdges = (blocks h.fGraph O).map (eF h.fGraph (canP h O)) := rfl
  rw [e1, List.filter_map, List.map_map]
  have e2 : (blocks h.fGraph O).filter ((fun e : Edge => e.fFrom == i && e.fTo == j) ∘ eF h.fGraph (canP h O)) = (blocks h.fGraph O).filter fun e => (rd h.fGraph.fEdges e).fFrom == rd O i && (rd h.fGraph.fEdges e).fTo == rd O j := by
    refine List.filter_congr fun e he => ?_
    have me := (L.mem e).1 he
    obtain ⟨_, mf, mt⟩ := c.edge me.1 me.2
    obtain ⟨_, b2⟩ := pos_back c F mf
    obtain ⟨_, b4⟩ := pos_back c F mt
    show (rd (canP h O) (rd h.fGraph.fEdges e).fFrom == i && rd (canP h O) (rd h.fGraph.fEdges e).fTo == j) = _
    have q : ∀ (x y : Int), rd O (rd (canP h O) x) = x → rd (canP h O) (rd O y) = y → (rd (canP h O) x == y) = (x == rd O y) := fun x y h1 h2 => by
      rw [Bool.eq_iff_iff, beq_iff_eq, beq_iff_eq]
      constructor
      · rintro rfl; exact h1.symm
      · rintro rfl; exact h2
    rw [q _ _ b2 ii, q _ _ b4 jj]
  rw [e2]
  unfold tys
  rw [idxL_ints]
  have nd : (blocks h.fGraph O).Nodup := L.sorted.imp fun {a b} hab e => by subst e; exact klt_as _ _ _ _ hab hab
  have ndi : (ints h.fGraph.fEdges.length).Nodup := by unfold ints; exact List.Pairwise.map _ (fun a b q e => q (by omega)) List.nodup_range
  exact ((nodup_perm ndi nd fun x => by rw [mem_ints, L.mem]).filter _).map _
theorem ints_first : ∀ (m s : Nat) (r : List Int), r.length = m → r.Nodup → (∀ x ∈ r, (s : Int) ≤ x) → lx ((ints (s + m)).drop s) r ≤ 0
  | 0, s, r, hl, _, _ => by
    obtain rfl : r = [] := List.length_eq_zero_iff.1 hl
    rw [List.drop_of_length_le (by rw [ints_len]; omega), lx_nn]; omega
  | m + 1, s, [], hl, _, _ => by cases hl
  | m + 1, s, x :: r, hl, hn, hx => by
    have hd : (ints (s + (m + 1))).drop s = (s : Int) :: (ints (s + (m + 1))).drop (s + 1) := by
      rw [drop_rdA (by rw [ints_len]; omega)]
      have : rd (ints (s + (m + 1))) (s : Int) = (s : Int) := rd_range15 _ (by omega)
      rw [this]
    have x0 := hx x List.mem_cons_self
    have hn := List.nodup_cons.1 hn
    rw [hd, lx_cons]
    by_cases q : (s : Int) < x
    · rw [if_pos q]; omega
    · rw [if_neg q, if_neg (by omega)]
      have := ints_first m (s + 1) r (by simpa using hl) hn.2 fun y hy => by
        have h1 := hx y (List.mem_cons_of_mem _ hy)
        have h2 : y ≠ x := by rintro rfl; exact hn.1 hy
        omega
      rw [show s + 1 + m = s + (m + 1) by omega] at this
      exact this
theorem can_first (c : Can t h) {O : List Int} (F : First (hs h) O) : First (hs (canH h O)) (ints h.fGraph.fNodes.length) := by
  have fo := F.full
  have hn : O.length = h.fGraph.fNodes.length := fo.len
  have nl : (hs (canH h O)).n = h.fGraph.fNodes.length := by show ((O.map _).length : Nat) = _; rw [List.length_map, hn]
  have lab : ∀ x, Mem (hs (canH h O)) x → (hs h).lab (rd O x) = (hs (canH h O)).lab x := fun x hx => by
    have hx' : 0 ≤ x ∧ x < ((hs (canH h O)).n : Int) := hx
    rw [nl, ← hn] at hx'
    show rd h.fGraph.fNodes (rd O x) :: rd h.fValues (rd O x) = rd (O.map fun x => rd h.fGraph.fNodes x) x :: rd (O.map fun x => rd h.fValues x) x
    rw [rd_map15I _ hx'.1 hx'.2, rd_map15I _ hx'.1 hx'.2]
  have bet : ∀ x y, Mem (hs (canH h O)) x → Mem (hs (canH h O)) y → (hs h).bet (rd O x) (rd O y) = (hs (canH h O)).bet x y := fun x y hx hy => by
    have hx' : 0 ≤ x ∧ x < ((hs (canH h O)).n : Int) := hx
    have hy' : 0 ≤ y ∧ y < ((hs (canH h O)).n : Int) := hy
    rw [nl, ← hn] at hx' hy'
    exact can_bet c fo hx' hy'
  have mapF : ∀ o, Full (hs (canH h O)) o → Full (hs h) (o.map (rd O)) ∧ code (hs h) (o.map (rd O)) = code (hs (canH h O)) o := fun o ho => by
    refine ⟨⟨⟨?_, fun x hx => ?_⟩, by rw [List.length_map, ho.len, nl]; rfl⟩, code_map (rd O) lab bet ho.mem⟩
    · refine List.Pairwise.map _ (fun {a b} hab => ?_) (List.Pairwise.imp_of_mem (fun {a b} ha hb (hab : a ≠ b) => (⟨ho.mem a ha, ho.mem b hb, hab⟩ : Mem (hs (canH h O)) a ∧ Mem (hs (canH h O)) b ∧ a ≠ b)) ho.nd)
      obtain ⟨m1, m2, ne⟩ := hab
      have m1' : 0 ≤ a ∧ a < ((hs (canH h O)).n : Int) := m1
      have m2' : 0 ≤ b ∧ b < ((hs (canH h O)).n : Int) := m2
      rw [nl, ← hn] at m1' m2'
      have ip := canP_pos h fo
      intro e
      have e1 := ip.at_ a.toNat (by omega)
      have e2 := ip.at_ b.toNat (by omega)
      rw [show ((a.toNat : Nat) : Int) = a by omega] at e1
      rw [show ((b.toNat : Nat) : Int) = b by omega] at e2
      rw [e] at e1; omega
    · obtain ⟨y, hy, rfl⟩ := List.mem_map.1 hx
      have m1 : 0 ≤ y ∧ y < ((hs (canH h O)).n : Int) := ho.mem y hy
      rw [nl, ← hn] at m1
      exact fo.mem _ (rd_mem m1.1 m1.2)
  have fi : Full (hs (canH h O)) (ints h.fGraph.fNodes.length) := ⟨⟨by unfold ints; exact List.Pairwise.map _ (fun a b q e => q (by omega)) List.nodup_range, fun x hx => by
    have := mem_ints.1 hx
    exact ⟨this.1, by rw [nl]; exact this.2⟩⟩, by rw [ints_len, nl]⟩
  have im : (ints h.fGraph.fNodes.length).map (rd O) = O := by
    refine list_rd (by rw [List.length_map, ints_len, hn]) fun j hj => ?_
    rw [List.length_map, ints_len] at hj
    rw [rd_map15 _ (by rw [ints_len]; exact hj)]
    have : rd (ints h.fGraph.fNodes.length) (j : Int) = (j : Int) := rd_range15 _ hj
    rw [this]
  have ci := (mapF _ fi).2
  rw [im] at ci
  refine ⟨fi, fun o ho => ?_⟩
  obtain ⟨f1, f2⟩ := mapF o ho
  rw [← ci, ← f2]
  rcases F.least _ f1 with q | ⟨q, _⟩
  · exact .inl q
  · refine .inr ⟨q, ?_⟩
    have := ints_first h.fGraph.fNodes.length 0 o (by rw [ho.len, nl]) ho.nd fun x hx => (ho.mem x hx).1
    rw [List.drop_zero, Nat.zero_add] at this; exact this
theorem can_again (c : Can t h) {O : List Int} (F : First (hs h) O) : canH (canH h O) (ints h.fGraph.fNodes.length) = canH h O := by
  have fo := F.full
  have hn : O.length = h.fGraph.fNodes.length := fo.len
  have c' := can_can c fo
  have F' := can_first c F
  have nl : (canH h O).fGraph.fNodes.length = h.fGraph.fNodes.length := by show ((O.map _).length : Nat) = _; rw [List.length_map, hn]
  have vl : (canH h O).fValues.length = h.fGraph.fNodes.length := by show ((O.map _).length : Nat) = _; rw [List.length_map, hn]
  have el : (canH h O).fGraph.fEdges.length = (blocks h.fGraph O).length := List.length_map _
  have bl := blocks_len c fo
  have ip := canP_pos h fo
  have L := blocks_listed c fo ip
  have ip' := canP_pos (canH h O) F'.full
  have idp : ∀ x : Int, 0 ≤ x → x < (h.fGraph.fNodes.length : Int) → rd (canP (canH h O) (ints h.fGraph.fNodes.length)) x = x := fun x h0 h1 => by
    have := ip'.at_ x.toNat (by rw [ints_len]; omega)
    have e : rd (ints h.fGraph.fNodes.length) ((x.toNat : Nat) : Int) = ((x.toNat : Nat) : Int) := rd_range15 _ (by omega)
    rw [e, show ((x.toNat : Nat) : Int) = x by omega] at this; exact this
  have idl : ∀ {α : Type} [Inhabited α] (l : List α), l.length = h.fGraph.fNodes.length → (ints h.fGraph.fNodes.length).map (fun x => rd l x) = l := fun l hl => by
    refine list_rd (by rw [List.length_map, ints_len, hl]) fun j hj => ?_
    rw [List.length_map, ints_len] at hj
    rw [rd_map15 _ (by rw [ints_len]; exact hj)]
    have : rd (ints h.fGraph.fNodes.length) (j : Int) = (j : Int) := rd_range15 _ hj
    rw [this]
  have re : ∀ j : Nat, j < (blocks h.fGraph O).length → rd (canH h O).fGraph.fEdges (j : Int) = eF h.fGraph (canP h O) (rd (blocks h.fGraph O) (j : Int)) := fun j hj => rd_map15 _ hj
  have key : ∀ j : Nat, j < (blocks h.fGraph O).length → key4 (canH h O).fGraph (canP (canH h O) (ints h.fGraph.fNodes.length)) (j : Int) = key4 h.fGraph (canP h O) (rd (blocks h.fGraph O) (j : Int)) := fun j hj => by
    have me := (L.mem _).1 (rd_mem (l := blocks h.fGraph O) (x := (j : Int)) (by omega) (by omega))
    obtain ⟨_, mf, mt⟩ := c.edge me.1 me.2
    obtain ⟨b1, _⟩ := pos_back c fo mf
    obtain ⟨b3, _⟩ := pos_back c fo mt
    have i1 := idp _ b1.1 (by rw [← hn]; exact b1.2)
    have i2 := idp _ b3.1 (by rw [← hn]; exact b3.2)
    unfold key4 kt tyE
    rw [re j hj]
    unfold eF
    dsimp only
    rw [i1, i2]
  have lst : Listed (canH h O) (canP (canH h O) (ints h.fGraph.fNodes.length)) (ints (blocks h.fGraph O).length) := by
    refine ⟨?_, fun x => by rw [mem_ints, el]⟩
    rw [List.pairwise_iff_getElem]
    intro a b ha hb hab
    rw [ints_len] at ha hb
    have ga : (ints (blocks h.fGraph O).length)[a]'(by rw [ints_len]; exact ha) = (a : Int) := by
      rw [← rd_get1' (by rw [ints_len]; exact ha)]; exact rd_range15 _ ha
    have gb : (ints (blocks h.fGraph O).length)[b]'(by rw [ints_len]; exact hb) = (b : Int) := by
      rw [← rd_get1' (by rw [ints_len]; exact hb)]; exact rd_range15 _ hb
    rw [ga, gb]
    have w := List.pairwise_iff_getElem.1 L.sorted a b ha hb hab
    rw [← rd_get1' ha, ← rd_get1' hb] at w
    refine klt_eq (fun q => ?_) (by omega)
    rw [key a ha, key b hb] at q
    exact klt_as _ _ _ _ w (klt_lt q)
  have bk : blocks (canH h O).fGraph (ints h.fGraph.fNodes.length) = ints (blocks h.fGraph O).length := (blocks_listed c' F'.full ip').uniq lst
  have ed : (blocks (canH h O).fGraph (ints h.fGraph.fNodes.length)).map (eF (canH h O).fGraph (canP (canH h O) (ints h.fGraph.fNodes.length))) = (canH h O).fGraph.fEdges := by
    rw [bk]
    refine list_rd (by rw [List.length_map, ints_len, el]) fun j hj => ?_
    rw [List.length_map, ints_len] at hj
    rw [rd_map15 _ (by rw [ints_len]; exact hj)]
    have e : rd (ints (blocks h.fGraph O).length) (j : Int) = (j : Int) := rd_range15 _ hj
    have me := (L.mem _).1 (rd_mem (l := blocks h.fGraph O) (x := (j : Int)) (by omega) (by omega))
    obtain ⟨_, mf, mt⟩ := c.edge me.1 me.2
    obtain ⟨b1, _⟩ := pos_back c fo mf
    obtain ⟨b3, _⟩ := pos_back c fo mt
    have i1 := idp _ b1.1 (by rw [← hn]; exact b1.2)
    have i2 := idp _ b3.1 (by rw [← hn]; exact b3.2)
    rw [e]
    conv => lhs; unfold eF
    rw [re j hj]
    unfold eF
    dsimp only
    rw [i1, i2]
  show Host.mk (Graph.mk _ _) _ = canH h O
  rw [idl _ nl, idl _ vl, ed]
end Go.Proofs.YthmdmchmmgmblaaGreat

namespace Go.Proofs.YthmdmchmmgmblaaGreat
open Go Go.Abs Go.Abs.CT
attribute [local irreducible] inR
variable {t : Types} {h : Host}

theorem light15_out {k : Nat} (hk : 200 ≤ k) {t : Types} (h : Host) (hA : ∀ n ∈ t.fNodes, n.fAttrs.length ≤ 140737488351232) : Out (law15_light k t h) (fun b => b = true → FewT t ∧ FewH h ∧ (h.fGraph.fNodes.length ≤ 7 ∨ 8 < h.fGraph.fNodes.length) ∧ h.fGraph.fEdges.length ≤ 20) := by
  obtain ⟨b, e, hb⟩ := small_out hk h hA
  unfold law15_light jn; dsimp only
  rw [e, Option.bind_some]
  cases b with
  | false => exact ⟨_, rfl, fun q => by cases q⟩
  | true =>
    obtain ⟨f1, f2⟩ := hb rfl
    rw [cond_true]
    by_cases c1 : (h.fGraph.fNodes.length : Int) ≤ 7
    · rw [decide_eq_true c1, cond_true]
      exact ⟨_, rfl, fun q => ⟨f1, f2, .inl (by omega), by have := of_decide_eq_true q; omega⟩⟩
    · rw [decide_eq_false c1, cond_false]
      by_cases c2 : (h.fGraph.fNodes.length : Int) > 8
      · rw [decide_eq_true c2, cond_true]
        exact ⟨_, rfl, fun q => ⟨f1, f2, .inr (by omega), by have := of_decide_eq_true q; omega⟩⟩
      · rw [decide_eq_false c2, cond_false]
        exact ⟨_, rfl, fun q => by cases q⟩
theorem Same02_self {k : Nat} {l : List Int} (hk : l.length < k) (hl : l.length ≤ 1000000) : ref02_SameInts k l l = some true := by
  unfold ref02_SameInts
  rw [bne_self_eq_false, cond_false]
  refine loop1_eq (fun _ => true) l.length (fun rec => ?_) (fun i hi rec ih => ?_) (Nat.zero_le _) (by omega)
  · rw [ref02_SameInts.b0, decide_eq_false (show ¬ (l.length : Int) < (l.length : Int) by omega), cond_false]
  · rw [ref02_SameInts.b0, decide_eq_true (show (i : Int) < (l.length : Int) by omega), cond_true, gd ⟨by omega, by omega⟩, gd ⟨by omega, by omega⟩, bne_self_eq_false, cond_false, gd (inR_nat (n := i) (by omega)), ih]
theorem Same06_self {k : Nat} {m : Morphism} (h1 : m.fNodes.length < k) (h2 : m.fNodes.length ≤ 1000000) (h3 : m.fEdges.length < k) (h4 : m.fEdges.length ≤ 1000000) : ref06_Same k m m = some true := by
  unfold ref06_Same jn; dsimp only
  rw [Same02_self h1 h2, Option.bind_some, cond_true, Same02_self h3 h4, Option.bind_some]
theorem can_ran (c : Can t h) {O : List Int} (F : Full (hs h) O) : RanH (canH h O) := fun l hl x hx => by
  have hl : l ∈ O.map fun x => rd h.fValues x := hl
  obtain ⟨y, hy, rfl⟩ := List.mem_map.1 hl
  have := c.sm_val (F.mem y hy) x hx
  have h1 := this.1; have h2 := this.2
  unfold inR; omega
/-- What Canonical answers. -/
structure CanOut (k : Nat) (t : Types) (r : Host × Morphism × Int) : Prop where
  few : FewH r.1
  ran : RanH r.1
  nodes : r.2.1.fNodes.length ≤ 100
  edges : r.2.1.fEdges.length ≤ 100
  again : r.2.2 = 0 → ∃ r', host_Canonical k t r.1 = some r' ∧ r'.2.2 = 0 ∧ r'.1 = r.1
theorem Canonical_two {k : Nat} (hk : 6000 ≤ k) (ht : FewT t) (hh : FewH h) (hn : h.fGraph.fNodes.length ≤ 7 ∨ 8 < h.fGraph.fNodes.length) (he : h.fGraph.fEdges.length ≤ 20) :
    ∃ r, host_Canonical k t h = some r ∧ ref15_Canonical k t h = some r ∧ CanOut k t r := by
  have none' : ∀ e : Int, e ≠ 0 → CanOut k t (Host.mk (Graph.mk [] []) [], Morphism.mk [] [], e) := fun e he => ⟨⟨⟨Nat.zero_le _, Nat.zero_le _⟩, Nat.zero_le _, fun j hj => by cases hj⟩, fun l hl => (by cases hl), Nat.zero_le _, Nat.zero_le _, fun q => absurd q he⟩
  cases c0 : ((hostV t h).2 != 0) with
  | true =>
    have c0' : (hostV t h).2 ≠ 0 := by simpa using c0
    refine ⟨(Host.mk (Graph.mk [] []) [], Morphism.mk [] [], (hostV t h).2), ?_, ?_, none' _ c0'⟩
    · unfold host_Canonical
      rw [host_valid_e (by omega) ht hh.graph, Option.bind_some, c0, cond_true]
    · unfold ref15_Canonical ref15_small
      rw [(host_valid2 (k := k) (by omega) ht hh.graph).2, Option.bind_some, c0, cond_true, Option.bind_some, c0, cond_true]
  | false =>
    have e0 : (hostV t h).2 = 0 := by simpa using c0
    rcases hn with n7 | n9
    · have c : Can t h := ⟨ht, e0, hh, by omega, he⟩
      obtain ⟨O, F, hsr⟩ := search_first c n7
      have fo := F.full
      have c' := can_can c fo
      have on : O.length = h.fGraph.fNodes.length := fo.len
      have nl : (canH h O).fGraph.fNodes.length = h.fGraph.fNodes.length := by show ((O.map _).length : Nat) = _; rw [List.length_map, on]
      refine ⟨canR h O, host_canonical_eq hk c n7 F (hsr k hk), ref_canonical_eq hk c n7 F, c'.fh, can_ran c fo, ?_, ?_, fun _ => ?_⟩
      · show (canP h O).length ≤ 100
        rw [(canP_pos h fo).len]; omega
      · show (msA (zer h.fGraph.fEdges.length) 0 (blocks h.fGraph O)).length ≤ 100
        rw [msA_len]; unfold zer; rw [List.length_replicate]; omega
      · have F' := can_first c F
        obtain ⟨O', G, hsr'⟩ := search_first c' (by omega)
        obtain rfl := F'.uniq G
        exact ⟨_, host_canonical_eq hk c' (by omega) F' (hsr' k hk), rfl, can_again c F⟩
    · refine ⟨(Host.mk (Graph.mk [] []) [], Morphism.mk [] [], 3), ?_, ?_, none' _ (by omega)⟩
      · unfold host_Canonical
        rw [host_valid_e (by omega) ht hh.graph, Option.bind_some, c0, cond_false, decide_eq_true (by omega), cond_true]
      · unfold ref15_Canonical ref15_small
        rw [(host_valid2 (k := k) (by omega) ht hh.graph).2, Option.bind_some, c0, cond_false, decide_eq_true (by omega), cond_true, Option.bind_some]
        rfl
theorem law_canonical {k : Nat} (hk : 6000 ≤ k) (aw : law15_awake k = some true) (t : Types) (h : Host) (hA : ∀ n ∈ t.fNodes, n.fAttrs.length ≤ 140737488351232) : law15_HostCanonical k t h = some true := by
  unfold law15_HostCanonical jn; dsimp only
  obtain ⟨b, e, hb⟩ := light15_out (k := k) (by omega) h hA
  rw [aw, Option.bind_some, Bool.not_true, cond_false, e, Option.bind_some]
  cases b with
  | false => rfl
  | true =>
    obtain ⟨ht, hh, hn, he⟩ := hb rfl
    obtain ⟨r, e1, e2, C⟩ := Canonical_two hk ht hh hn he
    obtain ⟨⟨⟨rn, re⟩, rv⟩, ⟨mn', me⟩, rz⟩ := r
    have few := C.few; have ran := C.ran; have m1 := C.nodes; have m2 := C.edges
    dsimp only at few ran m1 m2
    have ss : ref15_Same k (Host.mk (Graph.mk rn re) rv) (Host.mk (Graph.mk rn re) rv) = some true := by
      rw [ref15_Same_eq (by omega) few few ran ran, decide_eq_true rfl]
    have sm : ref06_Same k (Morphism.mk mn' me) (Morphism.mk mn' me) = some true := Same06_self (by show mn'.length < k; omega) (by show mn'.length ≤ 1000000; omega) (by show me.length < k; omega) (by show me.length ≤ 1000000; omega)
    rw [Bool.not_true, cond_false, copied15 (by omega) hh, Option.bind_some, e1, Option.bind_some, e2, Option.bind_some]
    dsimp only
    rw [ss, Option.bind_some, Bool.not_true, cond_false, sm, Option.bind_some, Bool.not_true, cond_false, bne_self_eq_false, cond_false]
    cases z : (rz != 0) with
    | true =>
      rw [cond_true, Option.bind_some, cond_true, Option.bind_some, cond_true, beq_self_eq_true]
    | false =>
      obtain ⟨r', f1, f2, f3⟩ := C.again (show rz = 0 by simpa using z)
      dsimp only at f1 f3
      rw [cond_false, f1, Option.bind_some, f2, f3, beq_self_eq_true, cond_true, ss, Option.bind_some]
end Go.Proofs.YthmdmchmmgmblaaGreat
