/- Type graphs that numbers describe have no error. -/
import Derived.Test.YtelpgjfojhcjcaaGreatS10
namespace Go.Proofs.YtelpgjfojhcjcaaGreat
open Go Go.Abs

theorem jn1_out {κ R : Type} {J : κ → Option R} {body : (κ → Option R) → Option R} {Q : κ → Prop} {P : R → Prop} (hb : ∀ j, ∃ a, Q a ∧ body j = j a) (hJ : ∀ a, Q a → Out (J a) P) : Out (jn J body) P := by
  obtain ⟨a, ha, e⟩ := hb J
  unfold jn; rw [e]; exact hJ a ha
theorem jn2_out {κ κ' R : Type} {J : κ → κ' → Option R} {body : (κ → κ' → Option R) → Option R} {Q : κ → κ' → Prop} {P : R → Prop} (hb : ∀ j, ∃ a b, Q a b ∧ body j = j a b) (hJ : ∀ a b, Q a b → Out (J a b) P) : Out (jn J body) P := by
  obtain ⟨a, b, ha, e⟩ := hb J
  unfold jn; rw [e]; exact hJ a b ha

def U8 (x : Int) : Prop := 0 ≤ x ∧ x ≤ 255
theorem wrap_u8 {x : Int} (h : U8 x) : IntKind.i64.wrap x = x := wrap_inR (inR_of (by have := h.1; have := h.2; omega))
theorem u8_wrap (x : Int) : U8 (IntKind.u8.wrap x) := by
  unfold U8
  simp only [IntKind.wrap, IntKind.bits, IntKind.signed, Bool.false_and, Bool.false_eq_true, if_false]
  omega
theorem tm {a n : Int} (ha : 0 ≤ a) (hn : 0 < n) : 0 ≤ a.tmod n ∧ a.tmod n < n := by
  rw [Int.tmod_eq_emod_of_nonneg ha]
  exact ⟨Int.emod_nonneg _ (by omega), Int.emod_lt_of_pos _ hn⟩

def nmA (j : Nat) : Str := (([65, 66, 67, 68, 69, 70] : Str).take (j + 1)).drop j
def nmU (j : Nat) : Str := (([117, 118, 119, 120, 121, 122] : Str).take (j + 1)).drop j
def nmE (j : Nat) : Str := (([101, 102, 103, 104, 105] : Str).take (j + 1)).drop j
structure NodeOk (j : Nat) (x : NodeType) : Prop where
  name : x.fName = nmA j
  par : -1 ≤ x.fParent ∧ x.fParent < (j : Int)
  attr : x.fAttrs = [] ∨ ∃ a, x.fAttrs = [a] ∧ a.fName = nmU j ∧ attrOwn a = 0 ∧ FewA a
structure EdgeOk (n j : Nat) (x : EdgeType) : Prop where
  name : x.fName = nmE j
  fr : 0 ≤ x.fFrom ∧ x.fFrom < (n : Int)
  to : 0 ≤ x.fTo ∧ x.fTo < (n : Int)
  ol : boundB x.fOutLow x.fOutHigh = true
  il : boundB x.fInLow x.fInHigh = true
structure MadeT (t : Types) : Prop where
  n1 : 1 ≤ t.fNodes.length
  n6 : t.fNodes.length ≤ 6
  e5 : t.fEdges.length ≤ 5
  node : ∀ j : Nat, j < t.fNodes.length → NodeOk j (rd t.fNodes (j : Int))
  edge : ∀ j : Nat, j < t.fEdges.length → EdgeOk t.fNodes.length j (rd t.fEdges (j : Int))
theorem rd_new {α : Type} [Inhabited α] {l : List α} {v : α} {i j : Nat} {P : Nat → α → Prop} (hl : l.length = i) (h : ∀ j : Nat, j < i → P j (rd l (j : Int))) (hv : P i v) (hj : j < i + 1) : P j (rd (l ++ [v]) (j : Int)) := by
  rcases Nat.lt_succ_iff_lt_or_eq.1 hj with hj | rfl
  · rw [rd_append_lt (by omega) (by omega)]; exact h j hj
  · have e : (j : Int) = (l.length : Int) := by omega
    have : rd (l ++ [v]) (j : Int) = v := by rw [e, rd_append_eq]
    rw [this]; exact hv
theorem few_small {a : Attr} (h1 : a.fName.length ≤ 40) (h2 : a.fNames = [] ∨ a.fNames = [([111, 102, 102] : Str), ([111, 110] : Str)]) : FewA a := by
  refine ⟨h1, ?_, ?_⟩
  · rcases h2 with h | h <;> rw [h] <;> simp
  · rcases h2 with h | h <;> rw [h] <;> simp
theorem nmU_len (j : Nat) : (nmU j).length ≤ 40 := by unfold nmU; simp; omega
theorem nmA_len (j : Nat) : (nmA j).length ≤ 40 := by unfold nmA; simp; omega
theorem nmE_len (j : Nat) : (nmE j).length ≤ 40 := by unfold nmE; simp; omega

theorem Made_out {k : Nat} (hk : 200 ≤ k) {a b : List A2Int} (ha : a.length ≤ 6) (hb : b.length ≤ 5) (ua : ∀ x ∈ a, U8 x.e0 ∧ U8 x.e1) (ub : ∀ x ∈ b, U8 x.e0 ∧ U8 x.e1) : Out (ref04_Made k a b) MadeT := by
  obtain ⟨n, hn1, hn6, hna, hnc⟩ : ∃ n : Nat, 1 ≤ n ∧ n ≤ 6 ∧ a.length ≤ n ∧ ∀ i, i < n → i = 0 ∨ i < a.length := by
    by_cases h : a.length = 0
    · exact ⟨1, by omega, by omega, by omega, fun i hi => .inl (by omega)⟩
    · exact ⟨a.length, by omega, ha, Nat.le_refl _, fun i hi => .inr hi⟩
  refine loop2_out (S := List NodeType) (P := fun _ _ t => MadeT t) (I := fun s i => s.length = i ∧ ∀ j : Nat, j < i → NodeOk j (rd s (j : Int))) n (fun s hs rec => ?_) (fun s i hi hs rec ih => ?_) k 0 [] (Nat.zero_le _) (by omega) ⟨rfl, fun j hj => by omega⟩
  · rw [ref04_Made.b0, jn]; dsimp only
    rw [show ((n : Int) == 0) = false by simp; omega, cond_false, decide_eq_false (show ¬ (n : Int) < (a.length : Int) by omega), cond_false, cond_false]
    refine loop2_out (S := List EdgeType) (P := fun _ _ t => MadeT t) (I := fun e i => e.length = i ∧ ∀ j : Nat, j < i → EdgeOk n j (rd e (j : Int))) b.length (fun e he rec => ?_) (fun e i hi he rec ih => ?_) k 0 [] (Nat.zero_le _) (by omega) ⟨rfl, fun j hj => by omega⟩
    · rw [ref04_Made.b1, jn]; dsimp only
      rw [decide_eq_false (show ¬ (b.length : Int) < (b.length : Int) by omega), cond_false, cond_false]
      refine ⟨_, rfl, ?_⟩
      refine ⟨?_, ?_, ?_, fun j hj => hs.2 j (by have := hs.1; dsimp only at hj; omega), fun j hj => ?_⟩
      · have := hs.1; dsimp only; omega
      · have := hs.1; dsimp only; omega
      · have := he.1; dsimp only; omega
      · have := he.2 j (by have := he.1; dsimp only at hj; omega)
        have e : n = s.length := hs.1.symm
        dsimp only; rw [← e]; exact this
    · have hm := ub _ (rd_mem (l := b) (x := (i : Int)) (by omega) (by omega))
      have hs1 := hs.1; have he1 := he.1
      rw [ref04_Made.b1, jn]; dsimp only
      rw [decide_eq_true (show (i : Int) < (b.length : Int) by omega), cond_true, decide_eq_true (show (i : Int) < 5 by omega), cond_true, gd (inR_nat (n := i) (by omega)), gd (by simp; omega), gd (by omega), gd (by omega), gd (by omega), gd (by omega), gd (by simp [lim]; omega), gd (inR_nat (n := i) (by omega))]
      refine ih _ ⟨by simp [he1], fun j hj => rd_new (P := EdgeOk n) he1 he.2 ?_ hj⟩
      rw [wrap_u8 hm.1, wrap_u8 hm.2, hs1]
      exact ⟨rfl, tm hm.1.1 (by omega), tm hm.2.1 (by omega), rfl, rfl⟩
  · have hs1 := hs.1
    rw [ref04_Made.b0, jn]; dsimp only
    have hc : ∀ A E : Option Types, (bif ((i : Int) == 0) then (bif true then A else E) else (bif decide ((i : Int) < (a.length : Int)) then (bif decide ((i : Int) < 6) then A else E) else (bif false then A else E))) = A := fun A E => by
      rcases hnc i hi with rfl | h
      · rfl
      · rw [decide_eq_true (show (i : Int) < (a.length : Int) by omega), decide_eq_true (show (i : Int) < 6 by omega)]
        cases ((i : Int) == 0) <;> rfl
    rw [hc]
    refine jn2_out (Q := fun x y => U8 x ∧ U8 y) (fun j => ?_) (fun x y hxy => ?_)
    · by_cases h : (i : Int) < (a.length : Int)
      · have hm := ua _ (rd_mem (l := a) (x := (i : Int)) (by omega) (by omega))
        exact ⟨_, _, hm, by rw [decide_eq_true h, cond_true, gd (by omega)]⟩
      · exact ⟨0, 0, ⟨⟨by omega, by omega⟩, ⟨by omega, by omega⟩⟩, by rw [decide_eq_false h, cond_false]⟩
    · rw [wrap_u8 hxy.1]
      have hp := tm (n := (i : Int) + 1) hxy.1.1 (by omega)
      have hq := tm (n := 9) (u8_wrap (y.tdiv 4)).1 (by omega)
      rw [gd (inR_nat (n := i) (by omega)), gd (by simp; omega), gd (inR_nat (n := i) (by omega)), gd (by omega), gd (inR_of (by omega)), gd (inR_nat (n := i) (by omega)), gd (by simp; omega), wrap_u8 (u8_wrap (y.tdiv 4))]
      cases (y.tmod 4 == 1) with
      | true =>
        rw [cond_true, gd (inR_of (by omega)), gd (by simp [lim]; omega), gd (inR_nat (n := i) (by omega))]
        refine ih _ ⟨by simp [hs1], fun j hj => rd_new (P := NodeOk) hs1 hs.2 ⟨rfl, by dsimp only; omega, .inr ⟨_, rfl, rfl, ?_, few_small (nmU_len i) (.inl rfl)⟩⟩ hj⟩
        unfold attrOwn
        dsimp only
        rw [show namesS [] = 0 from rfl, bne_self_eq_false, cond_false, show decide ((([] : List Str).length : Int) > 0) = false from rfl, cond_false, decide_eq_true (by omega), decide_eq_true (by omega), decide_eq_true (by omega)]
        rfl
      | false =>
        rw [cond_false]
        cases (y.tmod 4 == 2) with
        | true =>
          rw [cond_true, gd (by simp [lim]; omega), gd (inR_nat (n := i) (by omega))]
          exact ih _ ⟨by simp [hs1], fun j hj => rd_new (P := NodeOk) hs1 hs.2 ⟨rfl, by dsimp only; omega, .inr ⟨_, rfl, rfl, rfl, few_small (nmU_len i) (.inr rfl)⟩⟩ hj⟩
        | false =>
          rw [cond_false, gd (by simp [lim]; omega), gd (inR_nat (n := i) (by omega))]
          exact ih _ ⟨by simp [hs1], fun j hj => rd_new (P := NodeOk) hs1 hs.2 ⟨rfl, by dsimp only; omega, .inl rfl⟩ hj⟩

/-! ### Such a type graph is small, and has no error -/
theorem made_wf {t : Types} (h : MadeT t) : WfP t.fNodes t.fNodes.length := ⟨Nat.le_refl _, fun j hj => (h.node j hj).par⟩
theorem made_attr {t : Types} (h : MadeT t) {j : Nat} (hj : j < t.fNodes.length) : (rd t.fNodes (j : Int)).fAttrs.length ≤ 1 := by
  rcases (h.node j hj).attr with e | ⟨a, e, _⟩ <;> rw [e] <;> simp
theorem made_few {t : Types} (h : MadeT t) : FewT t := by
  have h6 := h.n6; have h5 := h.e5
  refine ⟨by omega, by omega, rd_cover fun j hj => ?_, rd_cover fun j hj => ?_, rd_cover fun j hj => ?_, rd_cover fun j hj => ?_⟩
  · rw [(h.node j hj).name]; exact nmA_len j
  · have := made_attr h hj; omega
  · intro x hx
    rcases (h.node j hj).attr with e | ⟨a, e, _, _, hf⟩
    · rw [e] at hx; cases hx
    · rw [e, List.mem_singleton] at hx; subst hx; exact hf
  · rw [(h.edge j hj).name]; exact nmE_len j
theorem nmA_ok : ∀ j, j < 6 → isNameB (nmA j) = true ∧ ∀ i, i < j → (nmA i == nmA j) = false := by decide
theorem nmU_ok : ∀ j, j < 6 → isNameB (nmU j) = true ∧ ∀ i, i < j → (nmU i == nmU j) = false := by decide
theorem nmE_ok : ∀ j, j < 5 → isNameB (nmE j) = true ∧ ∀ i, i < j → (nmE i == nmE j) = false := by decide
/-- The attributes along a line: at most one a type, each named for its type. -/
theorem made_attrs {t : Types} (h : MadeT t) : ∀ (d : Nat) (a : Int), a < (t.fNodes.length : Int) → ((attrsS t.fNodes d a).length : Int) ≤ max (a + 1) 0 ∧ ∀ x ∈ attrsS t.fNodes d a, ∃ j : Nat, (j : Int) ≤ a ∧ x.fName = nmU j
  | 0, a, _ => ⟨by simp [attrsS]; omega, by simp [attrsS]⟩
  | d + 1, a, ha => by
    rcases Int.lt_or_le a 0 with h0 | h0
    · rw [attrsS_neg h0]; exact ⟨by simp; omega, by simp⟩
    · have hw := wf_at (made_wf h) h0 ha
      have ih := made_attrs h d (rd t.fNodes a).fParent (by omega)
      have hn := h.node a.toNat (by omega)
      have hl := made_attr h (j := a.toNat) (by omega)
      rw [Int.toNat_of_nonneg h0] at hn hl
      rw [attrsS_pos h0]
      refine ⟨by rw [List.length_append]; omega, fun x hx => ?_⟩
      rcases List.mem_append.1 hx with hx | hx
      · obtain ⟨j, hj, e⟩ := ih.2 x hx
        exact ⟨j, by omega, e⟩
      · rcases hn.attr with e | ⟨y, e, e2, _⟩
        · rw [e] at hx; cases hx
        · rw [e, List.mem_singleton] at hx; subst hx
          exact ⟨a.toNat, by omega, e2⟩
theorem scan_none {e : Nat → Int} {n : Nat} : ∀ {i : Nat}, (∀ j, i ≤ j → j < n → e j = 0) → scan e i n = 0 := by
  intro i
  induction hd : n - i generalizing i with
  | zero => intro _; unfold scan; rw [hd]; rfl
  | succ d ih =>
    intro h
    rw [scan_step (by omega), h i (Nat.le_refl _) (by omega), bne_self_eq_false, cond_false]
    exact ih (i := i + 1) (by omega) fun j h1 h2 => h j (by omega) h2
theorem made_nodeErr {t : Types} (h : MadeT t) {i : Nat} (hi : i < t.fNodes.length) : nodeErr t i = 0 := by
  have hn := h.node i hi
  have h6 := h.n6
  have hA := nmA_ok i (by omega)
  have hl := made_attr h hi
  have hw := hn.par
  unfold nodeErr
  rw [hn.name, hA.1, Bool.not_true, cond_false, anyN_none (fun j _ hj => by rw [(h.node j (by omega)).name]; exact hA.2 j hj), cond_false, decide_eq_false (by omega), decide_eq_false (by omega), Bool.or_false, cond_false, decide_eq_false (by omega), cond_false]
  have hat := made_attrs h 100 (i : Int) (by omega)
  have hpa := made_attrs h 99 (rd t.fNodes (i : Int)).fParent (by omega)
  have hsp : attrsS t.fNodes 100 (i : Int) = attrsS t.fNodes 99 (rd t.fNodes (i : Int)).fParent ++ (rd t.fNodes (i : Int)).fAttrs := attrsS_pos (by omega)
  rw [decide_eq_false (by have := hat.1; omega), cond_false]
  refine scan_none fun j h1 h2 => ?_
  rcases hn.attr with e | ⟨x, e, e2, e3, _⟩
  · rw [e] at h1; simp only [List.length_nil] at h1; omega
  · have hU := nmU_ok i (by omega)
    rw [hsp, e] at h1 h2 ⊢
    simp only [List.length_append, List.length_singleton] at h1 h2
    have hj : j = (attrsS t.fNodes 99 (rd t.fNodes (i : Int)).fParent).length := by omega
    subst hj
    unfold attrErr
    rw [rd_append_eq, e2, hU.1, Bool.not_true, cond_false, anyN_none (fun m _ hm => ?_), cond_false, e3]
    rw [rd_append_lt (by omega) (by omega)]
    obtain ⟨m', hm', e4⟩ := hpa.2 _ (rd_mem (l := attrsS t.fNodes 99 (rd t.fNodes (i : Int)).fParent) (x := (m : Int)) (by omega) (by omega))
    rw [e4]; exact hU.2 m' (by omega)
theorem made_edgeErr {t : Types} (h : MadeT t) {i : Nat} (hi : i < t.fEdges.length) : edgeErr t i = 0 := by
  have hn := h.edge i hi
  have h5 := h.e5
  have hA := nmE_ok i (by omega)
  unfold edgeErr insB
  rw [hn.name, hA.1, Bool.not_true, cond_false, anyN_none (fun j _ hj => by rw [(h.edge j (by omega)).name]; exact hA.2 j hj), cond_false, decide_eq_true hn.fr.1, decide_eq_true hn.fr.2, decide_eq_true hn.to.1, decide_eq_true hn.to.2, hn.ol, hn.il]
  rfl
theorem made_valid {t : Types} (h : MadeT t) : validS t = 0 := by
  have h1 := h.n1; have h6 := h.n6; have h5 := h.e5
  unfold validS valid2S
  rw [show ((t.fNodes.length : Int) == 0) = false by rw [beq_eq_false_iff_ne]; omega, cond_false, decide_eq_false (show ¬ (t.fNodes.length : Int) > 12 by omega), decide_eq_false (show ¬ (t.fEdges.length : Int) > 20 by omega), Bool.or_false, cond_false, scan_none (fun j _ hj => made_nodeErr h hj), bne_self_eq_false, cond_false, scan_none (fun j _ hj => made_edgeErr h hj)]
end Go.Proofs.YtelpgjfojhcjcaaGreat
