import Derived.Test.YtcgdfjpeboiioaaGreatMtW1
import Derived.Test.YtcgdfjpeboiioaaGreatMtD
import Derived.Lib.SlicesCompact
import Derived.Sort.OwnSortedInts
namespace Go.Proofs.YtcgdfjpeboiioaaGreat
open Go.RowKit Go.Shelf Go.Sort
def allF : Fence := { fn := fun _ => True }
set_option maxHeartbeats 1000000 in
theorem values_calls (a : Option Addr) (len cap : Nat) (w : World) :
    Calls Tryz.prog 162 #[.slice a len cap] w fun e w' => e = .returned (.func (.func 187) #[] #[.pointer (some ⟨w.heap.size, 0, none⟩)]) ∧ w' = w.alloc (.cells #[.slice a len cap] 26) := by
  go_enter Tryz.func162, Tryz.ntmps162
  go_wp2
  go_ret
  exact ⟨rfl, rfl⟩
theorem collect_calls (Bs : Nat) (sv : Value) (zs : List Int) (hreach : zs.length * 8 ≤ 140737488351232) (w : World) (hBs : Bs < w.heap.size) (hc : w.cell? ⟨Bs, 0, none⟩ = some sv) (hI : Ints w.heap.size w sv zs) :
    Calls Tryz.prog 185 #[.func (.func 187) #[] #[.pointer (some ⟨Bs, 0, none⟩)]] w fun e W' => ∃ v, e = .returned v ∧ W'.ownsRow w.heap.size 3 1 v zs.length (zs.map (Value.int .i64)) ∧ (v = .slice none 0 0 ↔ zs = []) ∧ Below w.heap.size w W' :=
  (collect_in allF 10 trivial trivial trivial rfl (by omega) Bs sv zs hreach w hBs hc hI).calls fun _ d h => by cases h
def sortS (zs : List Int) : List Int := zs.mergeSort fun x y => decide (x ≤ y)
theorem sortS_length (zs : List Int) : (sortS zs).length = zs.length := by simp [sortS]
set_option maxHeartbeats 2000000 in
theorem sorted_calls (Bs : Nat) (sv : Value) (zs : List Int) (hreach : zs.length * 8 ≤ 140737488351232) (w : World) (hBs : Bs < w.heap.size) (hc : w.cell? ⟨Bs, 0, none⟩ = some sv) (hI : Ints w.heap.size w sv zs) :
    Calls Tryz.prog 161 #[.func (.func 187) #[] #[.pointer (some ⟨Bs, 0, none⟩)]] w fun e W' => ∃ v, e = .returned v ∧ W'.ownsRow w.heap.size 3 1 v zs.length ((sortS zs).map (Value.int .i64)) ∧ Below w.heap.size w W' := by
  have cC := collect_calls Bs sv zs hreach w hBs hc hI
  go_enter Tryz.func161, Tryz.ntmps161
  go_wp2_with (go_at_call 185; refine cC.mono ?_; rintro e W ⟨v, rfl, hrow, hnil, hb⟩)
  rcases hrow.2 with ⟨rfl, hz⟩ | ⟨gb, cap, cur, rfl, hbase, hgb, r1, r2, r3, r4⟩
  · have hss : zs = [] := List.eq_nil_of_length_eq_zero hz
    subst hss
    go_wp2_with (go_at_call 186; refine (Tryz.slices_Sort_int_none none 0 W).mono ?_; rintro e w' ⟨rfl, rfl⟩)
    go_ret
    exact ⟨.slice none 0 0, rfl, by simpa [sortS] using hrow, hb⟩
  · have hH : Holds (Value.int .i64) W gb 0 zs.toArray := holds_of_blockI hgb (by simpa using r4)
    have hgl : gb < W.heap.size := (Array.getElem?_eq_some_iff.1 hgb).1
    have hsz : zs.length < 4611686018427387904 := by omega
    have cS := Tryz.slices_Sort_int gb 0 cap zs W hH hgl hsz
    go_wp2_with (go_at_call 186; refine cS.mono ?_; rintro e w' ⟨rfl, nn, os, rfl⟩)
    go_ret
    exact ⟨_, rfl, ownsRow_sortedI (by simp) hbase hgb r1 r2 r3, hb.grown (grownBy_sortedI _) hb.size (fun j hj => by cases hj; exact hbase)⟩
def twiceB (zs : List Int) : Bool := decide ((Lib.compact (sortS zs)).length < zs.length)
theorem Ints.le {n m : Nat} (h : n ≤ m) {W : World} {sv : Value} {zs : List Int} : Ints n W sv zs → Ints m W sv zs
  | .inl e => .inl e
  | .inr ⟨b, off, cap, e, hb, hc⟩ => .inr ⟨b, off, cap, e, by omega, hc⟩
theorem below_put {W : World} {B g n : Nat} (d : Array Int) (hB : B ≤ g) (hs : B ≤ W.heap.size) : Below B W (putRow (Value.int .i64) (Sort.ahead W n) g 0 d) := by
  have h := grownBy_sortedI (w := W) (g := g) (n := n) (os := #[]) d
  have e : grow (putRow (Value.int .i64) (Sort.ahead W n) g 0 d) #[] = putRow (Value.int .i64) (Sort.ahead W n) g 0 d := by simp [grow]; rfl
  rw [e] at h
  exact (Below.refl B W).grown h hs (fun j hj => by cases hj; exact hB)
theorem ints_arg {W : World} {a : Option Addr} {len cap : Nat} {zs : List Int} {n : Nat} (h : Ints n W (.slice a len cap) zs) : len = zs.length := by
  rcases h with ⟨⟨a', cap', e⟩, rfl⟩ | ⟨b, off, cap', e, _⟩ <;> (injection e)
set_option maxHeartbeats 2000000 in
theorem twice_calls (a : Option Addr) (cap : Nat) (zs : List Int) (hreach : zs.length * 8 ≤ 140737488351232) (w : World) (hI : Ints w.heap.size w (.slice a zs.length cap) zs) :
    Calls Tryz.prog 121 #[.slice a zs.length cap] w fun e W' => e = .returned (.bool (twiceB zs)) ∧ Below w.heap.size w W' := by
  have hB0 : Below w.heap.size w (w.alloc (.cells #[.slice a zs.length cap] 26)) := (Below.refl _ w).alloc (Nat.le_refl _) _
  have cS := sorted_calls w.heap.size (.slice a zs.length cap) zs hreach (w.alloc (.cells #[.slice a zs.length cap] 26)) (by simp) (Boxed.new w 26 _).cell ((hI.below hB0).le (by simp))
  have cV := values_calls a zs.length cap w
  go_enter Tryz.func121, Tryz.ntmps121
  go_wp2_with (first
    | (go_at_call 162; refine cV.mono ?_; rintro e w' ⟨rfl, rfl⟩)
    | (go_at_call 161; refine cS.mono ?_; rintro e W ⟨v, rfl, hrow, hb⟩))
  have hbw : Below w.heap.size w W := hB0.trans (hb.mono (by simp))
  rcases hrow.2 with ⟨rfl, hz⟩ | ⟨gb, cap', cur, rfl, hbase, hgb, r1, r2, r3, r4⟩
  · have hss : zs = [] := List.eq_nil_of_length_eq_zero hz
    subst hss
    go_wp2_with (go_at_call 160; refine (Tryz.slices_Compact_int_empty none 0 W).mono ?_; rintro e w' ⟨rfl, rfl⟩)
    go_ret
    exact ⟨rfl, hbw⟩
  · have hH : Holds (Value.int .i64) W gb 0 (sortS zs).toArray := holds_of_blockI hgb (by simpa [sortS_length] using r4)
    have cC := Tryz.slices_Compact_int gb 0 cap' (sortS zs) W hH (by rw [sortS_length]; omega) (by rw [sortS_length]; omega)
    rw [sortS_length] at cC
    go_wp2_with (go_at_call 160; refine cC.mono ?_; rintro e w' ⟨rfl, nn, rfl⟩)
    go_ret
    refine ⟨by simp [twiceB], hbw.trans (below_put _ ?_ hbw.size)⟩
    simp at hbase; omega
theorem sort_sorted (zs : List Int) : (sortS zs).Pairwise (· ≤ ·) := by
  have h := List.pairwise_mergeSort (le := fun x y : Int => decide (x ≤ y)) (fun a b c => by simp; omega) (fun a b => by simp; omega) zs
  exact h.imp fun h => by simpa using h
theorem adj_nodup {s : List Int} (hs : s.Pairwise (· ≤ ·)) (h : ∀ j, 0 < j → (hj : j < s.length) → s[j] ≠ s[j - 1]'(by omega)) : s.Nodup := by
  rw [List.Nodup, List.pairwise_iff_getElem]
  rw [List.pairwise_iff_getElem] at hs
  intro i j hi hj hij
  have h1 := h j (by omega) hj
  have h2 : s[j - 1]'(by omega) ≤ s[j] := hs (j - 1) j (by omega) hj (by omega)
  rcases Nat.eq_or_lt_of_le (show i ≤ j - 1 by omega) with e | e
  · subst e; exact fun e => h1 e.symm
  · have h3 : s[i] ≤ s[j - 1]'(by omega) := hs i (j - 1) hi (by omega) e
    omega
theorem twice_nodup (zs : List Int) : twiceB zs = !decide zs.Nodup := by
  have hp : (sortS zs).Perm zs := List.mergeSort_perm _ _
  have hl := sortS_length zs
  have hs := sort_sorted zs
  have hn : zs.Nodup ↔ (sortS zs).Nodup := (List.Perm.nodup_iff hp).symm
  rw [show decide zs.Nodup = decide (sortS zs).Nodup by rw [decide_eq_decide]; exact hn]
  unfold twiceB
  rw [← hl]
  generalize sortS zs = s at *
  by_cases hk : ∀ j, j < s.length → Lib.keeps s.toArray j = true
  · rw [Lib.compact_all s hk, decide_eq_false (Nat.lt_irrefl _)]
    have : s.Nodup := adj_nodup hs fun j h0 hj e => by
      have h1 := hk j hj
      rw [Lib.keeps_neg h0 (by simp [getElem!_pos, hj, show j - 1 < s.length by omega, e])] at h1
      cases h1
    simp [this]
  · obtain ⟨j, hj, hkj⟩ : ∃ j, j < s.length ∧ ¬ Lib.keeps s.toArray j = true := by
      simpa using hk
    have h0 : 0 < j := by
      rcases Nat.eq_zero_or_pos j with rfl | h
      · exact absurd (Lib.keeps_lt_one _ 0 (by omega)) hkj
      · exact h
    have e : s[j] = s[j - 1]'(by omega) := Classical.byContradiction fun he => hkj (Lib.keeps_pos (by simpa [getElem!_pos, hj, show j - 1 < s.length by omega] using he))
    have hnd : ¬ s.Nodup := fun hd => by
      rw [List.Nodup, List.pairwise_iff_getElem] at hd
      exact hd (j - 1) j (by omega) hj (by omega) e.symm
    have hlt : (Lib.compact s).length < s.length := by
      unfold Lib.compact Lib.compactUpTo
      rw [List.length_map]
      have := List.length_filter_lt_length_iff_exists (l := List.range s.length) (p := fun j => Lib.keeps s.toArray j)
      rw [List.length_range] at this
      exact this.2 ⟨j, List.mem_range.2 hj, hkj⟩
    rw [decide_eq_true hlt, decide_eq_false hnd]; rfl
open Go.Abs in
theorem all2_ints {w : World} {bad : Bad} : ∀ {xs : List Int} {cs : List Value}, All2 w bad (kInt.cs xs) cs → cs = xs.map (Value.int .i64)
  | [], [], _ => rfl
  | x :: xs, c :: cs, h => by
    have h' : (EqA (.int .i64 x)).P w bad c ∧ All2 w bad (kInt.cs xs) cs := h
    rw [List.map_cons, all2_ints h'.2, show c = .int .i64 x from h'.1]
  | [], _ :: _, h => h.elim
  | _ :: _, [], h => h.elim
open Go.Abs in
theorem search_twice.con (k : Nat) (a0 : (List Int)) (r : Bool) (h : search_twice k a0 = some r) : Con Tryz.prog 121 [] [SlcA kInt a0] (RA (EqA (.bool r))) := fun w fg vs s k2 => by
  unfold search_twice at h
  obtain ⟨hl, h⟩ := ite_n h
  cases h
  match vs, k2 with
  | [v], k2 =>
    obtain ⟨⟨base, cap, rfl, _, _, hk⟩, _⟩ := k2
    have hI : Ints w.heap.size w (.slice base a0.length cap) a0 := by
      rcases hk with rfl | ⟨b, o, cs, rfl, hb, _, hc, hat⟩
      · exact .inl ⟨⟨base, cap, rfl⟩, rfl⟩
      · have e := all2_ints hc
        subst e
        refine .inr ⟨b, o, cap, rfl, hb, fun j hj => ?_⟩
        rw [hat j (by simpa using hj)]
        simp [List.getElem?_eq_getElem hj]
    refine (twice_calls base cap a0 (by omega) w hI).mono ?_
    rintro e W' ⟨rfl, hb⟩
    rw [twice_nodup]
    exact ⟨_, [], _, rfl, ⟨rfl, rfl⟩, ⟨by simp [keys], by simp [keys], fun b hb' => Nat.lt_of_lt_of_le (s.lt b hb') hb.size, by simp⟩, ⟨hb.os, hb.tape, hb.output, hb.size, fun b hb' _ => ⟨hb.block b hb', by simp [keys]⟩⟩, rfl⟩
end Go.Proofs.YtcgdfjpeboiioaaGreat
