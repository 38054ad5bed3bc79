/- The Go functions compute the pure ones. (Printed by gen.py.) -/
import Derived.Test.YtcgdfjpeboiioaaGreatC6
namespace Go.Proofs.YtcgdfjpeboiioaaGreat
open Go Go.Abs
attribute [local irreducible] Tryz.prog
theorem attribute_value.con (k : Nat) (a0 : Term) (a1 : (List Int)) (r : Int) (h : attribute_value k a0 a1 = some r) : Con Tryz.prog 41 [] [AggA [EqA (.int .i64 a0.fVar), EqA (.int .i64 a0.fAdd)], SlcA kInt a1] (RA (EqA (.int .i64 r))) := by
 unfold attribute_value at h
 refine Con.of (N := 18) Tryz.func41 rfl rfl rfl fun w0_ fg_ => W.seq <| W.region <| WL.p rfl rfl rfl (.s 0 rfl .nil) (q_box rfl (CellsOf.agg _)) <| WL.p rfl rfl rfl (.k .nil) (q_assign rfl) <| WL.nil <| QN.then_ <| W.seq <| W.seq <| W.region <| WL.p rfl rfl rfl (.s 2 rfl .nil) (q_field rfl fo23_0 rfl) <| WL.p rfl rfl rfl (.s 5 rfl .nil) (q_load rfl sh3) <| WL.p rfl rfl rfl (.s 6 rfl (.k .nil)) (q_int rfl rfl) ?_
 refine WL.nil <| QN.then_ ?_
 refine W.condP h rfl (fun hb4404 h => ?_) (fun hb4404 h => ?_)
 ·refine W.seq <| W.region <| WL.p rfl rfl rfl (.s 2 rfl .nil) (q_field rfl fo23_1 rfl) <| WL.p rfl rfl rfl (.s 8 rfl .nil) (q_load rfl sh3) <| WL.p rfl rfl rfl (.s 9 rfl .nil) (q_assign rfl) <| WL.nil <| QN.weaken (env' := [(4, _)]) (.one rfl (.nil _)) <| QN.then_ <| W.ret <| QR.then_ ?_
  cases h
  exact QR.f1 rfl rfl (.t rfl) (.id _)
 ·refine W.skip <| QN.then_ <| W.seq <| W.drawK [(0, false), (1, false), (2, false), (3, false), (4, false), (5, false), (6, false), (7, false), (8, false)] [] [[], [], [1], [0, 1, 2], [0, 1, 2, 3], [], [5], [0, 1, 2, 3, 4, 5, 6], [0, 1, 2, 3, 4, 5, 6, 7]] mx (by kernel_rfl) <| DK.cons rfl rfl (.p rfl (.s 1 rfl .nil) rfl (q_move rfl)) <| DK.cons rfl rfl (.p rfl (.s 2 rfl .nil) rfl (q_field rfl fo23_0 rfl)) <| DK.cons rfl rfl (.p rfl (.s 11 rfl .nil) rfl (q_load rfl sh3)) ?_
  obtain ⟨c4409, h⟩ := ite_n h
  refine DK.cons rfl rfl (.p rfl (.s 10 rfl (.s 12 rfl .nil)) rfl (q_index rfl el26 rfl c4409.1 c4409.2)) <| DK.cons rfl rfl (.p rfl (.s 13 rfl .nil) rfl (q_load rfl sh3)) <| DK.cons rfl rfl (.p rfl (.s 2 rfl .nil) rfl (q_field rfl fo23_1 rfl)) <| DK.cons rfl rfl (.p rfl (.s 15 rfl .nil) rfl (q_load rfl sh3)) ?_
  obtain ⟨c4410, h⟩ := ite_n h
  refine DK.cons rfl rfl (.p rfl (.s 14 rfl (.s 16 rfl .nil)) rfl (q_addR rfl c4410)) <| DK.cons rfl rfl (.p rfl (.s 17 rfl .nil) rfl (q_assign rfl)) <| DK.nil <| CSteps.nil <| QN.weaken (env' := [(4, _)]) (.one rfl (.nil _)) <| QN.then_ <| W.ret ?_
  cases h
  exact QR.f1 rfl rfl (.t rfl) (.id _)
theorem difference_wide.con (k : Nat) (a0 : Int) (a1 : Int) (r : (Int × Int)) (h : difference_wide k a0 a1 = some r) : Con Tryz.prog 164 [] [EqA (.int .i64 a0), EqA (.int .i64 a1)] (RA (TupA [EqA (.int .i64 r.1), EqA (.int .u64 r.2)])) := by
 unfold difference_wide at h
 refine Con.of (N := 25) Tryz.func164 rfl rfl rfl fun w0_ fg_ => W.seq <| W.region <| WL.p rfl rfl rfl (.k .nil) (q_assign rfl) <| WL.p rfl rfl rfl (.k .nil) (q_assign rfl) <| WL.nil <| QN.then_ <| W.seq <| W.region <| WL.p rfl rfl rfl (.s 0 rfl .nil) (q_move rfl) <| WL.p rfl rfl rfl (.s 9 rfl .nil) (q_conv rfl cv206 cvS3) <| WL.p rfl rfl rfl (.s 1 rfl .nil) (q_move rfl) <| WL.p rfl rfl rfl (.s 11 rfl .nil) (q_conv rfl cv206 cvS3) ?_
 obtain ⟨c4411, h⟩ := ite_n h
 refine WL.p rfl rfl rfl (.s 10 rfl (.s 12 rfl (.k .nil))) (q_add64 (f := 188) rfl Tryz.func188 (by kernel_rfl) rfl (by kernel_rfl) ad188 c4411.1 c4411.2.1 c4411.2.2.1 c4411.2.2.2) <| WL.p rfl rfl rfl (.s 13 rfl .nil) (q_move rfl) <| WL.p rfl rfl rfl (.s 8 rfl .nil) (q_extract rfl rfl) <| WL.p rfl rfl rfl (.s 8 rfl .nil) (q_extract rfl rfl) <| WL.p rfl rfl rfl (.s 14 rfl .nil) (q_assign rfl) <| WL.p rfl rfl rfl (.s 15 rfl .nil) (q_assign rfl) <| WL.nil <| QN.weaken (env' := [(7, _), (6, _), (1, _), (0, _)]) (.one rfl (.one rfl (.one rfl (.one rfl (.nil _))))) <| QN.then_ <| W.seq <| W.region <| WL.p rfl rfl rfl (.s 0 rfl .nil) (q_move rfl) <| WL.p rfl rfl rfl (.s 16 rfl (.k .nil)) (q_shrN rfl (by decide)) ?_
 refine WL.p rfl rfl rfl (.s 1 rfl .nil) (q_move rfl) <| WL.p rfl rfl rfl (.s 18 rfl (.k .nil)) (q_shrN rfl (by decide)) ?_
 obtain ⟨c4412, h⟩ := ite_n h
 refine WL.p rfl rfl rfl (.s 17 rfl (.s 19 rfl .nil)) (q_addR rfl c4412) <| WL.p rfl rfl rfl (.s 7 rfl .nil) (q_move rfl) <| WL.p rfl rfl rfl (.s 21 rfl .nil) (q_conv rfl cv3 cvS206) ?_
 obtain ⟨c4413, h⟩ := ite_n h
 refine WL.p rfl rfl rfl (.s 20 rfl (.s 22 rfl .nil)) (q_addR rfl c4413) <| WL.p rfl rfl rfl (.s 6 rfl .nil) (q_move rfl) <| WL.p rfl rfl rfl (.s 23 rfl .nil) (q_assign rfl) <| WL.p rfl rfl rfl (.s 24 rfl .nil) (q_assign rfl) <| WL.nil <| QN.weaken (env' := [(5, _), (4, _)]) (.one rfl (.one rfl (.nil _))) <| QN.then_ <| W.ret ?_
 cases h
 exact QR.f2 rfl rfl (.t rfl) (.t rfl) (.id _)
theorem difference_Holds_1.con (k : Nat) (a0 : Term) (a1 : (List Int)) (r : (Int × Int × Bool)) (h : difference_Holds_1 k a0 a1 = some r) : Con Tryz.prog 163 [] [AggA [EqA (.int .i64 a0.fVar), EqA (.int .i64 a0.fAdd)], PtrA [SlcA kInt a1]] (RA (TupA [EqA (.int .i64 r.1), EqA (.int .u64 r.2.1), EqA (.bool r.2.2)])) := by
 unfold difference_Holds_1 at h
 refine Con.of (N := 46) Tryz.func163 rfl rfl rfl fun w0_ fg_ => W.seq <| W.region <| WL.p rfl rfl rfl (.s 0 rfl .nil) (q_box rfl (CellsOf.agg _)) <| WL.p rfl rfl rfl (.k .nil) (q_assign rfl) <| WL.p rfl rfl rfl (.k .nil) (q_assign rfl) <| WL.p rfl rfl rfl (.k .nil) (q_assign rfl) <| WL.nil <| QN.then_ <| W.seq <| W.block <| W.seq <| W.region ?_
 refine WL.p rfl rfl rfl (.s 2 rfl .nil) (q_field rfl fo23_0 rfl) <| WL.p rfl rfl rfl (.s 11 rfl .nil) (q_load rfl sh3) <| WL.p rfl rfl rfl (.s 12 rfl (.k .nil)) (q_int rfl rfl) <| WL.p rfl rfl rfl (.s 13 rfl .nil) (q_assign rfl) <| WL.nil <| QN.weaken (env' := [(10, _), (2, _), (1, _)]) (.one rfl (.one rfl (.one rfl (.nil _)))) <| QN.then_ ?_
 refine W.condP h rfl (fun hb4414 h => ?_) (fun hb4414 h => ?_)
 ·refine W.seq <| W.region <| WL.p rfl rfl rfl (.s 2 rfl .nil) (q_field rfl fo23_1 rfl) <| WL.p rfl rfl rfl (.s 15 rfl .nil) (q_load rfl sh3) ?_
  obtain ⟨t4415, ht4415, h⟩ := bind_s h
  refine WL.p rfl rfl rfl (.k (.s 16 rfl .nil)) (q_call (f := 164) (A := TupA [EqA (.int .i64 t4415.1), EqA (.int .u64 t4415.2)]) (xs := [.const (.int .i64 0), .tmp 16]) («as» := [EqA (.int .i64 0), EqA (.int .i64 a0.fAdd)]) rfl ca164 (difference_wide.con k 0 a0.fAdd t4415 ht4415) rfl) <| WL.p rfl rfl rfl (.s 17 rfl .nil) (q_move rfl) <| WL.p rfl rfl rfl (.s 14 rfl .nil) (q_extract rfl rfl) <| WL.p rfl rfl rfl (.s 14 rfl .nil) (q_extract rfl rfl) <| WL.p rfl rfl rfl (.s 18 rfl .nil) (q_assign rfl) <| WL.p rfl rfl rfl (.s 19 rfl .nil) (q_assign rfl) <| WL.nil <| QN.weaken (env' := [(7, _), (6, _)]) (.one rfl (.one rfl (.nil _))) <| QN.then_ <| W.seq <| W.region <| WL.p rfl rfl rfl (.s 6 rfl .nil) (q_move rfl) <| WL.p rfl rfl rfl (.s 7 rfl .nil) (q_move rfl) ?_
  refine WL.p rfl rfl rfl (.s 20 rfl .nil) (q_assign rfl) <| WL.p rfl rfl rfl (.s 21 rfl .nil) (q_assign rfl) <| WL.p rfl rfl rfl (.k .nil) (q_assign rfl) <| WL.nil <| QN.then_ <| W.ret <| QR.block <| QR.then_ ?_
  cases h
  exact QR.f3 rfl rfl (.t rfl) (.t rfl) (.t rfl) (.id _)
 ·refine W.seq ?_
  refine W.jn1 (Γ := Unit) (fun (_ : Unit) (x22 : Bool) => [(1, PtrA [SlcA kInt a1]), (2, PtrA [EqA (.int .i64 a0.fVar), EqA (.int .i64 a0.fAdd)]), (22, EqA (.bool x22))]) (fun (_ : Unit) (_ : Bool) => []) h (fun _ x22 h => ?_) (fun j4418 Kj4418 h => ?_)
  ·refine QN.then_ ?_
   refine W.condP h rfl (fun hb4419 h => ?_) (fun hb4419 h => ?_)
   ·refine W.seq <| W.region <| WL.p rfl rfl rfl (.k .nil) (q_assign rfl) <| WL.p rfl rfl rfl (.k .nil) (q_assign rfl) <| WL.p rfl rfl rfl (.k .nil) (q_assign rfl) <| WL.nil <| QN.then_ <| W.ret <| QR.block <| QR.then_ ?_
    cases h
    exact QR.f3 rfl rfl (.t rfl) (.t rfl) (.t rfl) (.id _)
   ·refine W.skip <| QN.block <| QN.then_ <| W.seq <| W.drawK [(0, false), (1, false), (2, false), (3, false), (4, false), (5, false), (6, false), (7, false), (8, false), (9, false), (10, false), (11, false), (12, false)] [] [[], [], [1], [0, 1, 2], [0, 1, 2, 3], [], [5], [0, 1, 2, 3, 4, 5, 6], [0, 1, 2, 3, 4, 5, 6, 7], [0, 1, 2, 3, 4, 5, 6, 7, 8], [0, 1, 2, 3, 4, 5, 6, 7, 8], [0, 1, 2, 3, 4, 5, 6, 7, 8, 9], [0, 1, 2, 3, 4, 5, 6, 7, 8, 9, 10, 11]] mx (by kernel_rfl) <| DK.cons rfl rfl (.p rfl (.s 1 rfl .nil) rfl (q_load rfl sh26)) <| DK.cons rfl rfl (.p rfl (.s 2 rfl .nil) rfl (q_field rfl fo23_0 rfl)) <| DK.cons rfl rfl (.p rfl (.s 35 rfl .nil) rfl (q_load rfl sh3)) ?_
    obtain ⟨c4424, h⟩ := ite_n h
    refine DK.cons rfl rfl (.p rfl (.s 34 rfl (.s 36 rfl .nil)) rfl (q_index rfl el26 rfl c4424.1 c4424.2)) <| DK.cons rfl rfl (.p rfl (.s 37 rfl .nil) rfl (q_load rfl sh3)) <| DK.cons rfl rfl (.p rfl (.s 2 rfl .nil) rfl (q_field rfl fo23_1 rfl)) <| DK.cons rfl rfl (.p rfl (.s 39 rfl .nil) rfl (q_load rfl sh3)) ?_
    obtain ⟨t4425, ht4425, h⟩ := bind_s h
    refine DK.cons rfl rfl (.p rfl (.s 38 rfl (.s 40 rfl .nil)) rfl (q_call (f := 164) (A := TupA [EqA (.int .i64 t4425.1), EqA (.int .u64 t4425.2)]) (xs := [.tmp 38, .tmp 40]) («as» := [EqA (.int .i64 (rd a1 a0.fVar)), EqA (.int .i64 a0.fAdd)]) rfl ca164 (difference_wide.con k (rd a1 a0.fVar) a0.fAdd t4425 ht4425) rfl)) <| DK.cons rfl rfl (.p rfl (.s 41 rfl .nil) rfl (q_move rfl)) <| DK.cons rfl rfl (.p rfl (.s 33 rfl .nil) rfl (q_extract rfl rfl)) <| DK.cons rfl rfl (.p rfl (.s 33 rfl .nil) rfl (q_extract rfl rfl)) <| DK.cons rfl rfl (.p rfl (.s 42 rfl .nil) rfl (q_assign rfl)) <| DK.cons rfl rfl (.p rfl (.s 43 rfl .nil) rfl (q_assign rfl)) <| DK.nil <| CSteps.nil <| QN.weaken (env' := [(9, _), (8, _)]) (.one rfl (.one rfl (.nil _))) <| QN.then_ <| W.seq <| W.region <| WL.p rfl rfl rfl (.s 8 rfl .nil) (q_move rfl) ?_
    refine WL.p rfl rfl rfl (.s 9 rfl .nil) (q_move rfl) <| WL.p rfl rfl rfl (.s 44 rfl .nil) (q_assign rfl) <| WL.p rfl rfl rfl (.s 45 rfl .nil) (q_assign rfl) <| WL.p rfl rfl rfl (.k .nil) (q_assign rfl) <| WL.nil <| QN.then_ <| W.ret ?_
    cases h
    exact QR.f3 rfl rfl (.t rfl) (.t rfl) (.t rfl) (.id _)
  ·refine W.region <| WL.p rfl rfl rfl (.s 2 rfl .nil) (q_field rfl fo23_0 rfl) <| WL.p rfl rfl rfl (.s 23 rfl .nil) (q_load rfl sh3) <| WL.p rfl rfl rfl (.s 24 rfl (.k .nil)) (q_int rfl rfl) <| WL.p rfl rfl rfl (.s 25 rfl .nil) (q_move rfl) ?_
   rcases bif_s h with ⟨hb4426, h⟩ | ⟨hb4426, h⟩
   ·refine WL.skip (Unwanted.on rfl rfl rfl hb4426) rfl rfl <| WL.skip (Unwanted.on rfl rfl rfl hb4426) rfl rfl <| WL.skip (Unwanted.on rfl rfl rfl hb4426) rfl rfl <| WL.skip (Unwanted.on rfl rfl rfl hb4426) rfl rfl <| WL.skip (Unwanted.on rfl rfl rfl hb4426) rfl rfl <| WL.p rfl rfl rfl (.s 26 rfl (.k .nil)) (q_pickT rfl hb4426) <| WL.p rfl rfl rfl (.s 32 rfl .nil) (q_assign rfl) <| WL.nil ?_
    exact QN.weaken (.one rfl (.one rfl (.one rfl (.nil _)))) (Kj4418 () true h)
   ·refine WL.q (Wanted.on rfl rfl rfl hb4426) rfl rfl (.s 2 rfl .nil) (q_field rfl fo23_0 rfl).o <| WL.q (Wanted.on rfl rfl rfl hb4426) rfl rfl (.s 27 rfl .nil) (q_load rfl sh3).o <| WL.q (Wanted.on rfl rfl rfl hb4426) rfl rfl (.s 1 rfl .nil) (q_load rfl sh26).o <| WL.q (Wanted.on rfl rfl rfl hb4426) rfl rfl (.s 29 rfl .nil) (q_len rfl elS26).o <| WL.q (Wanted.on rfl rfl rfl hb4426) rfl rfl (.s 28 rfl (.s 30 rfl .nil)) (q_int rfl rfl).o <| WL.p rfl rfl rfl (.s 26 rfl (.s 31 rfl .nil)) (q_pickF rfl hb4426) <| WL.p rfl rfl rfl (.s 32 rfl .nil) (q_assign rfl) <| WL.nil ?_
    exact QN.weaken (.one rfl (.one rfl (.one rfl (.nil _)))) (Kj4418 () (decide (a0.fVar ≥ (a1.length : Int))) h)
theorem cmp_isNaN_int.con (k : Nat) (a0 : Int) (r : Bool) (h : cmp_isNaN_int k a0 = some r) : Con Tryz.prog 189 [] [EqA (.int .i64 a0)] (RA (EqA (.bool r))) := by
 unfold cmp_isNaN_int at h
 refine Con.of (N := 6) Tryz.func189 rfl rfl rfl fun w0_ fg_ => W.seq <| W.region <| WL.p rfl rfl rfl (.k .nil) (q_assign rfl) <| WL.nil <| QN.then_ <| W.seq <| W.region <| WL.p rfl rfl rfl (.s 0 rfl .nil) (q_move rfl) <| WL.p rfl rfl rfl (.s 0 rfl .nil) (q_move rfl) <| WL.p rfl rfl rfl (.s 3 rfl (.s 4 rfl .nil)) (q_int rfl rfl) <| WL.p rfl rfl rfl (.s 5 rfl .nil) (q_assign rfl) <| WL.nil ?_
 refine QN.then_ <| W.ret ?_
 cases h
 exact QR.f1 rfl rfl (.t rfl) (.id _)
theorem cmp_Compare_int.con (k : Nat) (a0 : Int) (a1 : Int) (r : Int) (h : cmp_Compare_int k a0 a1 = some r) : Con Tryz.prog 166 [] [EqA (.int .i64 a0), EqA (.int .i64 a1)] (RA (EqA (.int .i64 r))) := by
 unfold cmp_Compare_int at h
 refine Con.of (N := 20) Tryz.func166 rfl rfl rfl fun w0_ fg_ => W.seq <| W.region <| WL.p rfl rfl rfl (.k .nil) (q_assign rfl) <| WL.nil <| QN.then_ <| W.seq <| W.region <| WL.p rfl rfl rfl (.s 0 rfl .nil) (q_move rfl) ?_
 obtain ⟨t4427, ht4427, h⟩ := bind_s h
 refine WL.p rfl rfl rfl (.s 7 rfl .nil) (q_call (f := 189) (A := EqA (.bool t4427)) (xs := [.tmp 7]) («as» := [EqA (.int .i64 a0)]) rfl ca189 (cmp_isNaN_int.con k a0 t4427 ht4427) rfl) <| WL.p rfl rfl rfl (.s 8 rfl .nil) (q_assign rfl) <| WL.nil <| QN.then_ <| W.seq <| W.region <| WL.p rfl rfl rfl (.s 1 rfl .nil) (q_move rfl) ?_
 obtain ⟨t4428, ht4428, h⟩ := bind_s h
 refine WL.p rfl rfl rfl (.s 9 rfl .nil) (q_call (f := 189) (A := EqA (.bool t4428)) (xs := [.tmp 9]) («as» := [EqA (.int .i64 a1)]) rfl ca189 (cmp_isNaN_int.con k a1 t4428 ht4428) rfl) <| WL.p rfl rfl rfl (.s 10 rfl .nil) (q_assign rfl) <| WL.nil <| QN.then_ <| W.seq <| W.seq <| W.region <| WL.p rfl rfl rfl (.s 5 rfl .nil) (q_move rfl) <| WL.nil <| QN.then_ ?_
 refine W.condP h rfl (fun hb4429 h => ?_) (fun hb4429 h => ?_)
 ·refine W.seq <| W.seq <| W.region <| WL.p rfl rfl rfl (.s 6 rfl .nil) (q_move rfl) <| WL.nil <| QN.weaken (env' := [(12, _)]) (.one rfl (.nil _)) <| QN.then_ ?_
  refine W.condP h rfl (fun hb4430 h => ?_) (fun hb4430 h => ?_)
  ·refine W.seq <| W.region <| WL.p rfl rfl rfl (.k .nil) (q_assign rfl) <| WL.nil <| QN.then_ <| W.ret <| QR.then_ <| QR.then_ ?_
   cases h
   exact QR.f1 rfl rfl (.t rfl) (.id _)
  ·refine W.skip <| QN.then_ <| W.seq <| W.region <| WL.p rfl rfl rfl (.k .nil) (q_assign rfl) <| WL.nil <| QN.then_ <| W.ret <| QR.then_ ?_
   cases h
   exact QR.f1 rfl rfl (.t rfl) (.id _)
 ·refine W.skip <| QN.weaken (env' := [(6, _), (1, _), (0, _)]) (.one rfl (.one rfl (.one rfl (.nil _)))) <| QN.then_ <| W.seq <| W.seq <| W.region <| WL.p rfl rfl rfl (.s 6 rfl .nil) (q_move rfl) <| WL.nil <| QN.then_ ?_
  refine W.condP h rfl (fun hb4431 h => ?_) (fun hb4431 h => ?_)
  ·refine W.seq <| W.region <| WL.p rfl rfl rfl (.k .nil) (q_assign rfl) <| WL.nil <| QN.then_ <| W.ret <| QR.then_ ?_
   cases h
   exact QR.f1 rfl rfl (.t rfl) (.id _)
  ·refine W.skip <| QN.then_ <| W.seq <| W.seq <| W.region <| WL.p rfl rfl rfl (.s 0 rfl .nil) (q_move rfl) <| WL.p rfl rfl rfl (.s 1 rfl .nil) (q_move rfl) <| WL.p rfl rfl rfl (.s 14 rfl (.s 15 rfl .nil)) (q_int rfl rfl) <| WL.nil <| QN.then_ ?_
   refine W.condP h rfl (fun hb4432 h => ?_) (fun hb4432 h => ?_)
   ·refine W.seq <| W.region <| WL.p rfl rfl rfl (.k .nil) (q_assign rfl) <| WL.nil <| QN.weaken (env' := [(4, _)]) (.one rfl (.nil _)) <| QN.then_ <| W.ret <| QR.then_ ?_
    cases h
    exact QR.f1 rfl rfl (.t rfl) (.id _)
   ·refine W.skip <| QN.then_ <| W.seq <| W.seq <| W.region <| WL.p rfl rfl rfl (.s 0 rfl .nil) (q_move rfl) <| WL.p rfl rfl rfl (.s 1 rfl .nil) (q_move rfl) <| WL.p rfl rfl rfl (.s 17 rfl (.s 18 rfl .nil)) (q_int rfl rfl) <| WL.nil <| QN.weaken (env' := [(19, _)]) (.one rfl (.nil _)) <| QN.then_ ?_
    refine W.condP h rfl (fun hb4433 h => ?_) (fun hb4433 h => ?_)
    ·refine W.seq <| W.region <| WL.p rfl rfl rfl (.k .nil) (q_assign rfl) <| WL.nil <| QN.then_ <| W.ret <| QR.then_ ?_
     cases h
     exact QR.f1 rfl rfl (.t rfl) (.id _)
    ·refine W.skip <| QN.then_ <| W.seq <| W.region <| WL.p rfl rfl rfl (.k .nil) (q_assign rfl) <| WL.nil <| QN.then_ <| W.ret ?_
     cases h
     exact QR.f1 rfl rfl (.t rfl) (.id _)
theorem cmp_isNaN_uint64.con (k : Nat) (a0 : Int) (r : Bool) (h : cmp_isNaN_uint64 k a0 = some r) : Con Tryz.prog 190 [] [EqA (.int .u64 a0)] (RA (EqA (.bool r))) := by
 unfold cmp_isNaN_uint64 at h
 refine Con.of (N := 6) Tryz.func190 rfl rfl rfl fun w0_ fg_ => W.seq <| W.region <| WL.p rfl rfl rfl (.k .nil) (q_assign rfl) <| WL.nil <| QN.then_ <| W.seq <| W.region <| WL.p rfl rfl rfl (.s 0 rfl .nil) (q_move rfl) <| WL.p rfl rfl rfl (.s 0 rfl .nil) (q_move rfl) <| WL.p rfl rfl rfl (.s 3 rfl (.s 4 rfl .nil)) (q_int rfl rfl) <| WL.p rfl rfl rfl (.s 5 rfl .nil) (q_assign rfl) <| WL.nil ?_
 refine QN.then_ <| W.ret ?_
 cases h
 exact QR.f1 rfl rfl (.t rfl) (.id _)
theorem cmp_Compare_uint64.con (k : Nat) (a0 : Int) (a1 : Int) (r : Int) (h : cmp_Compare_uint64 k a0 a1 = some r) : Con Tryz.prog 167 [] [EqA (.int .u64 a0), EqA (.int .u64 a1)] (RA (EqA (.int .i64 r))) := by
 unfold cmp_Compare_uint64 at h
 refine Con.of (N := 20) Tryz.func167 rfl rfl rfl fun w0_ fg_ => W.seq <| W.region <| WL.p rfl rfl rfl (.k .nil) (q_assign rfl) <| WL.nil <| QN.then_ <| W.seq <| W.region <| WL.p rfl rfl rfl (.s 0 rfl .nil) (q_move rfl) ?_
 obtain ⟨t4434, ht4434, h⟩ := bind_s h
 refine WL.p rfl rfl rfl (.s 7 rfl .nil) (q_call (f := 190) (A := EqA (.bool t4434)) (xs := [.tmp 7]) («as» := [EqA (.int .u64 a0)]) rfl ca190 (cmp_isNaN_uint64.con k a0 t4434 ht4434) rfl) <| WL.p rfl rfl rfl (.s 8 rfl .nil) (q_assign rfl) <| WL.nil <| QN.then_ <| W.seq <| W.region <| WL.p rfl rfl rfl (.s 1 rfl .nil) (q_move rfl) ?_
 obtain ⟨t4435, ht4435, h⟩ := bind_s h
 refine WL.p rfl rfl rfl (.s 9 rfl .nil) (q_call (f := 190) (A := EqA (.bool t4435)) (xs := [.tmp 9]) («as» := [EqA (.int .u64 a1)]) rfl ca190 (cmp_isNaN_uint64.con k a1 t4435 ht4435) rfl) <| WL.p rfl rfl rfl (.s 10 rfl .nil) (q_assign rfl) <| WL.nil <| QN.then_ <| W.seq <| W.seq <| W.region <| WL.p rfl rfl rfl (.s 5 rfl .nil) (q_move rfl) <| WL.nil <| QN.then_ ?_
 refine W.condP h rfl (fun hb4436 h => ?_) (fun hb4436 h => ?_)
 ·refine W.seq <| W.seq <| W.region <| WL.p rfl rfl rfl (.s 6 rfl .nil) (q_move rfl) <| WL.nil <| QN.weaken (env' := [(12, _)]) (.one rfl (.nil _)) <| QN.then_ ?_
  refine W.condP h rfl (fun hb4437 h => ?_) (fun hb4437 h => ?_)
  ·refine W.seq <| W.region <| WL.p rfl rfl rfl (.k .nil) (q_assign rfl) <| WL.nil <| QN.then_ <| W.ret <| QR.then_ <| QR.then_ ?_
   cases h
   exact QR.f1 rfl rfl (.t rfl) (.id _)
  ·refine W.skip <| QN.then_ <| W.seq <| W.region <| WL.p rfl rfl rfl (.k .nil) (q_assign rfl) <| WL.nil <| QN.then_ <| W.ret <| QR.then_ ?_
   cases h
   exact QR.f1 rfl rfl (.t rfl) (.id _)
 ·refine W.skip <| QN.weaken (env' := [(6, _), (1, _), (0, _)]) (.one rfl (.one rfl (.one rfl (.nil _)))) <| QN.then_ <| W.seq <| W.seq <| W.region <| WL.p rfl rfl rfl (.s 6 rfl .nil) (q_move rfl) <| WL.nil <| QN.then_ ?_
  refine W.condP h rfl (fun hb4438 h => ?_) (fun hb4438 h => ?_)
  ·refine W.seq <| W.region <| WL.p rfl rfl rfl (.k .nil) (q_assign rfl) <| WL.nil <| QN.then_ <| W.ret <| QR.then_ ?_
   cases h
   exact QR.f1 rfl rfl (.t rfl) (.id _)
  ·refine W.skip <| QN.then_ <| W.seq <| W.seq <| W.region <| WL.p rfl rfl rfl (.s 0 rfl .nil) (q_move rfl) <| WL.p rfl rfl rfl (.s 1 rfl .nil) (q_move rfl) <| WL.p rfl rfl rfl (.s 14 rfl (.s 15 rfl .nil)) (q_int rfl rfl) <| WL.nil <| QN.then_ ?_
   refine W.condP h rfl (fun hb4439 h => ?_) (fun hb4439 h => ?_)
   ·refine W.seq <| W.region <| WL.p rfl rfl rfl (.k .nil) (q_assign rfl) <| WL.nil <| QN.weaken (env' := [(4, _)]) (.one rfl (.nil _)) <| QN.then_ <| W.ret <| QR.then_ ?_
    cases h
    exact QR.f1 rfl rfl (.t rfl) (.id _)
   ·refine W.skip <| QN.then_ <| W.seq <| W.seq <| W.region <| WL.p rfl rfl rfl (.s 0 rfl .nil) (q_move rfl) <| WL.p rfl rfl rfl (.s 1 rfl .nil) (q_move rfl) <| WL.p rfl rfl rfl (.s 17 rfl (.s 18 rfl .nil)) (q_int rfl rfl) <| WL.nil <| QN.weaken (env' := [(19, _)]) (.one rfl (.nil _)) <| QN.then_ ?_
    refine W.condP h rfl (fun hb4440 h => ?_) (fun hb4440 h => ?_)
    ·refine W.seq <| W.region <| WL.p rfl rfl rfl (.k .nil) (q_assign rfl) <| WL.nil <| QN.then_ <| W.ret <| QR.then_ ?_
     cases h
     exact QR.f1 rfl rfl (.t rfl) (.id _)
    ·refine W.skip <| QN.then_ <| W.seq <| W.region <| WL.p rfl rfl rfl (.k .nil) (q_assign rfl) <| WL.nil <| QN.then_ <| W.ret ?_
     cases h
     exact QR.f1 rfl rfl (.t rfl) (.id _)
theorem cmp_Or_int.con (k : Nat) (a0 : (List Int)) (r : Int) (h : cmp_Or_int k a0 = some r) : Con Tryz.prog 165 [] [SlcA kInt a0] (RA (EqA (.int .i64 r))) := by
 unfold cmp_Or_int at h
 refine Con.of (N := 18) Tryz.func165 rfl rfl rfl fun w0_ fg_ => W.seq <| W.region <| WL.p rfl rfl rfl (.k .nil) (q_assign rfl) <| WL.nil <| QN.then_ <| W.seq <| W.region <| WL.p rfl rfl rfl (.k .nil) (q_assign rfl) <| WL.nil <| QN.then_ <| W.seq <| W.seq ?_
 refine W.region <| WL.p rfl rfl rfl (.s 0 rfl .nil) (q_move rfl) <| WL.p rfl rfl rfl (.s 6 rfl .nil) (q_len rfl elS26) <| WL.p rfl rfl rfl (.k .nil) (q_move rfl) <| WL.nil <| QN.then_ <| W.block ?_
 refine W.loop1 (Γ := Unit) (fun (_ : Unit) (x8 : Int) => [(3, EqA (.int .i64 0)), (6, SlcA kInt a0), (7, EqA (.int .i64 (a0.length : Int))), (8, EqA (.int .i64 x8))]) (fun (_ : Unit) (_ : Int) => []) h () (.one rfl (.one rfl (.one rfl (.one rfl (.nil _))))) rfl (fun rec0 K0 next0 _ x8 h => ?_)
 unfold cmp_Or_int.b0 at h
 refine W.seq <| W.region <| WL.p rfl rfl rfl (.s 8 rfl (.s 7 rfl .nil)) (q_int rfl rfl) <| WL.nil <| QN.then_ <| W.seq ?_
 refine W.condP h rfl (fun hb4449 h => ?_) (fun hb4449 h => ?_)
 ·refine W.skip <| QN.then_ <| W.seq <| W.block <| W.seq <| W.region ?_
  obtain ⟨c4450, h⟩ := ite_n h
  refine WL.p rfl rfl rfl (.s 6 rfl (.s 8 rfl .nil)) (q_index rfl el26 rfl c4450.1 c4450.2) <| WL.p rfl rfl rfl (.s 10 rfl .nil) (q_load rfl sh3) <| WL.p rfl rfl rfl (.s 11 rfl .nil) (q_assign rfl) <| WL.nil <| QN.then_ <| W.seq <| W.region <| WL.p rfl rfl rfl (.s 5 rfl .nil) (q_move rfl) <| WL.p rfl rfl rfl (.s 3 rfl .nil) (q_move rfl) <| WL.p rfl rfl rfl (.s 12 rfl (.s 13 rfl .nil)) (q_int rfl rfl) <| WL.nil <| QN.then_ ?_
  refine W.condP h rfl (fun hb4451 h => ?_) (fun hb4451 h => ?_)
  ·refine W.seq <| W.region <| WL.p rfl rfl rfl (.s 5 rfl .nil) (q_move rfl) <| WL.p rfl rfl rfl (.s 15 rfl .nil) (q_assign rfl) <| WL.nil <| QN.weaken (env' := [(2, _)]) (.one rfl (.nil _)) <| QN.then_ <| W.ret <| QR.block <| QR.then_ <| QR.then_ <| QR.block <| QR.then_ ?_
   cases h
   exact QR.f1 rfl rfl (.t rfl) (.id _)
  ·refine W.skip <| QN.block <| QN.weaken (env' := [(8, _), (7, _), (6, _), (3, _)]) (.one rfl (.one rfl (.one rfl (.one rfl (.nil _))))) <| QN.then_ <| W.region ?_
   obtain ⟨c4452, h⟩ := ite_n h
   refine WL.p rfl rfl rfl (.s 8 rfl (.k .nil)) (q_addR rfl c4452) <| WL.p rfl rfl rfl (.s 16 rfl .nil) (q_move rfl) <| WL.nil ?_
   exact next0 () (x8 + 1) _ h (.one rfl (.one rfl (.one rfl (.one rfl (.nil _)))))
 ·refine W.exit <| QX.then_ <| QX.then_ <| QX.here <| QN.then_ <| W.seq <| W.region <| WL.p rfl rfl rfl (.s 3 rfl .nil) (q_move rfl) <| WL.p rfl rfl rfl (.s 17 rfl .nil) (q_assign rfl) <| WL.nil <| QN.then_ <| W.ret ?_
  cases h
  exact QR.f1 rfl rfl (.t rfl) (.id _)
theorem difference_Holds.con (k : Nat) (a0 : Test) (a1 : (List Int)) (r : Bool) (h : difference_Holds k a0 a1 = some r) : Con Tryz.prog 122 [] [AggA [EqA (.int .i64 a0.fKind), EqA (.int .i64 a0.fLeft.fVar), EqA (.int .i64 a0.fLeft.fAdd), EqA (.int .i64 a0.fRight.fVar), EqA (.int .i64 a0.fRight.fAdd)], SlcA kInt a1] (RA (EqA (.bool r))) := by
 unfold difference_Holds at h
 refine Con.of (N := 60) Tryz.func122 rfl rfl rfl fun w0_ fg_ => W.seq <| W.region <| WL.p rfl rfl rfl (.s 0 rfl .nil) (q_box rfl (CellsOf.agg _)) <| WL.p rfl rfl rfl (.s 1 rfl .nil) (q_box rfl (CellsOf.one rfl)) <| WL.p rfl rfl rfl (.k .nil) (q_assign rfl) <| WL.nil <| QN.then_ <| W.seq <| W.region <| WL.p rfl rfl rfl (.s 3 rfl .nil) (q_makeFunc (xs := [.tmp 3]) (L := [PtrA [SlcA kInt a1]]) («as» := (fun (x : Term) => [AggA [EqA (.int .i64 x.fVar), EqA (.int .i64 x.fAdd)]])) (res := (fun (y : (Int × Int × Bool)) => TupA [EqA (.int .i64 y.1), EqA (.int .u64 y.2.1), EqA (.bool y.2.2)])) (p := (fun x => difference_Holds_1 k x a1)) rfl ca163 rfl (fun x y hp => (difference_Holds_1.con k x a1 y hp))) <| WL.p rfl rfl rfl (.s 13 rfl .nil) (q_assign rfl) <| WL.nil ?_
 refine QN.then_ <| W.seq <| W.region <| WL.p rfl rfl rfl (.s 5 rfl .nil) (q_move rfl) <| WL.p rfl rfl rfl (.s 2 rfl .nil) (q_field rfl fo86_1 rfl) <| WL.p rfl rfl rfl (.s 16 rfl .nil) (q_loadS rfl sh23 (leB rfl) rfl) ?_
 obtain ⟨t4453, ht4453, h⟩ := bind_s h
 refine WL.p rfl rfl rfl (.s 15 rfl (.s 17 rfl .nil)) (q_callV («as» := (fun (x : Term) => [AggA [EqA (.int .i64 x.fVar), EqA (.int .i64 x.fAdd)]])) (res := (fun (y : (Int × Int × Bool)) => TupA [EqA (.int .i64 y.1), EqA (.int .u64 y.2.1), EqA (.bool y.2.2)])) (x := a0.fLeft) (y := t4453) (xs := [.tmp 17]) rfl ht4453 rfl) <| WL.p rfl rfl rfl (.s 18 rfl .nil) (q_move rfl) <| WL.p rfl rfl rfl (.s 14 rfl .nil) (q_extract rfl rfl) <| WL.p rfl rfl rfl (.s 14 rfl .nil) (q_extract rfl rfl) <| WL.p rfl rfl rfl (.s 14 rfl .nil) (q_extract rfl rfl) <| WL.p rfl rfl rfl (.s 19 rfl .nil) (q_assign rfl) <| WL.p rfl rfl rfl (.s 20 rfl .nil) (q_assign rfl) <| WL.p rfl rfl rfl (.s 21 rfl .nil) (q_assign rfl) <| WL.nil <| QN.weaken (env' := [(8, _), (7, _), (6, _), (5, _), (2, _)]) (.one rfl (.one rfl (.one rfl (.one rfl (.one rfl (.nil _)))))) <| QN.then_ <| W.seq <| W.region ?_
 refine WL.p rfl rfl rfl (.s 5 rfl .nil) (q_move rfl) <| WL.p rfl rfl rfl (.s 2 rfl .nil) (q_field rfl fo86_2 rfl) <| WL.p rfl rfl rfl (.s 24 rfl .nil) (q_loadS rfl sh23 (leB rfl) rfl) ?_
 obtain ⟨t4454, ht4454, h⟩ := bind_s h
 refine WL.p rfl rfl rfl (.s 23 rfl (.s 25 rfl .nil)) (q_callV («as» := (fun (x : Term) => [AggA [EqA (.int .i64 x.fVar), EqA (.int .i64 x.fAdd)]])) (res := (fun (y : (Int × Int × Bool)) => TupA [EqA (.int .i64 y.1), EqA (.int .u64 y.2.1), EqA (.bool y.2.2)])) (x := a0.fRight) (y := t4454) (xs := [.tmp 25]) rfl ht4454 rfl) <| WL.p rfl rfl rfl (.s 26 rfl .nil) (q_move rfl) <| WL.p rfl rfl rfl (.s 22 rfl .nil) (q_extract rfl rfl) <| WL.p rfl rfl rfl (.s 22 rfl .nil) (q_extract rfl rfl) <| WL.p rfl rfl rfl (.s 22 rfl .nil) (q_extract rfl rfl) <| WL.p rfl rfl rfl (.s 27 rfl .nil) (q_assign rfl) <| WL.p rfl rfl rfl (.s 28 rfl .nil) (q_assign rfl) <| WL.p rfl rfl rfl (.s 29 rfl .nil) (q_assign rfl) <| WL.nil <| QN.weaken (env' := [(11, _), (10, _), (9, _), (8, _), (7, _), (6, _), (2, _)]) (.one rfl (.one rfl (.one rfl (.one rfl (.one rfl (.one rfl (.one rfl (.nil _)))))))) <| QN.then_ <| W.seq <| W.seq ?_
 refine W.jn1 (Γ := Unit) (fun (_ : Unit) (x35 : Bool) => [(2, PtrA [EqA (.int .i64 a0.fKind), EqA (.int .i64 a0.fLeft.fVar), EqA (.int .i64 a0.fLeft.fAdd), EqA (.int .i64 a0.fRight.fVar), EqA (.int .i64 a0.fRight.fAdd)]), (6, EqA (.int .i64 t4453.1)), (7, EqA (.int .u64 t4453.2.1)), (9, EqA (.int .i64 t4454.1)), (10, EqA (.int .u64 t4454.2.1)), (35, EqA (.bool x35))]) (fun (_ : Unit) (_ : Bool) => []) h (fun _ x35 h => ?_) (fun j4457 Kj4457 h => ?_)
 ·refine QN.then_ ?_
  refine W.condP h rfl (fun hb4458 h => ?_) (fun hb4458 h => ?_)
  ·refine W.seq <| W.region <| WL.p rfl rfl rfl (.k .nil) (q_assign rfl) <| WL.nil <| QN.then_ <| W.ret <| QR.then_ ?_
   cases h
   exact QR.f1 rfl rfl (.t rfl) (.id _)
  ·refine W.skip <| QN.then_ <| W.seq <| W.region <| WL.p rfl rfl rfl (.s 6 rfl .nil) (q_move rfl) <| WL.p rfl rfl rfl (.s 9 rfl .nil) (q_move rfl) ?_
   obtain ⟨t4459, ht4459, h⟩ := bind_s h
   refine WL.p rfl rfl rfl (.s 36 rfl (.s 37 rfl .nil)) (q_call (f := 166) (A := EqA (.int .i64 t4459)) (xs := [.tmp 36, .tmp 37]) («as» := [EqA (.int .i64 t4453.1), EqA (.int .i64 t4454.1)]) rfl ca166 (cmp_Compare_int.con k t4453.1 t4454.1 t4459 ht4459) rfl) <| WL.p rfl rfl rfl (.s 7 rfl .nil) (q_move rfl) <| WL.p rfl rfl rfl (.s 10 rfl .nil) (q_move rfl) ?_
   obtain ⟨t4460, ht4460, h⟩ := bind_s h
   refine WL.p rfl rfl rfl (.s 39 rfl (.s 40 rfl .nil)) (q_call (f := 167) (A := EqA (.int .i64 t4460)) (xs := [.tmp 39, .tmp 40]) («as» := [EqA (.int .u64 t4453.2.1), EqA (.int .u64 t4454.2.1)]) rfl ca167 (cmp_Compare_uint64.con k t4453.2.1 t4454.2.1 t4460 ht4460) rfl) <| WL.p rfl rfl rfl (.s 38 rfl (.s 41 rfl .nil)) (q_lit (kd := kInt) (ps := [(0, .tmp 38), (1, .tmp 41)]) (xs := [.tmp 38, .tmp 41]) («as» := [EqA (.int .i64 t4459), EqA (.int .i64 t4460)]) (ys := [t4459, t4460]) rfl rfl el26 rfl gr3 rfl rfl rfl (.cons (CellsOf.one rfl) (.cons (CellsOf.one rfl) .nil))) ?_
   obtain ⟨t4461, ht4461, h⟩ := bind_s h
   refine WL.p rfl rfl rfl (.s 42 rfl .nil) (q_call (f := 165) (A := EqA (.int .i64 t4461)) (xs := [.tmp 42]) («as» := [SlcA kInt [t4459, t4460]]) rfl ca165 (cmp_Or_int.con k [t4459, t4460] t4461 ht4461) rfl) <| WL.p rfl rfl rfl (.s 43 rfl .nil) (q_assign rfl) <| WL.nil <| QN.weaken (env' := [(12, _), (2, _)]) (.one rfl (.one rfl (.nil _))) <| QN.then_ <| W.seq ?_
   refine W.jn1 (Γ := Unit) (fun (_ : Unit) (x4 : Bool) => [(4, EqA (.bool x4))]) (fun (_ : Unit) (_ : Bool) => []) h (fun _ x4 h => ?_) (fun j4467 Kj4467 h => ?_)
   ·refine QN.then_ <| W.ret ?_
    cases h
    exact QR.f1 rfl rfl (.t rfl) (.id _)
   ·refine W.region <| WL.p rfl rfl rfl (.s 2 rfl .nil) (q_field rfl fo86_0 rfl) <| WL.p rfl rfl rfl (.s 44 rfl .nil) (q_load rfl sh3) <| WL.p rfl rfl rfl (.s 45 rfl (.k .nil)) (q_int rfl rfl) <| WL.p rfl rfl rfl (.s 46 rfl .nil) (q_move rfl) ?_
    rcases bif_s h with ⟨hb4468, h⟩ | ⟨hb4468, h⟩
    ·refine WL.q (Wanted.on rfl rfl rfl hb4468) rfl rfl (.s 12 rfl .nil) (q_move rfl).o <| WL.q (Wanted.on rfl rfl rfl hb4468) rfl rfl (.s 48 rfl (.k .nil)) (q_int rfl rfl).o <| WL.p rfl rfl rfl (.s 47 rfl (.s 49 rfl .nil)) (q_pickT rfl hb4468) <| WL.p rfl rfl rfl (.s 50 rfl .nil) (q_move rfl) ?_
     rcases bif_s h with ⟨hb4469, h⟩ | ⟨hb4469, h⟩
     ·refine WL.skip (Unwanted.on rfl rfl rfl hb4469) rfl rfl <| WL.skip (Unwanted.on rfl rfl rfl hb4469) rfl rfl <| WL.skip (Unwanted.on rfl rfl rfl hb4469) rfl rfl <| WL.skip (Unwanted.on rfl rfl rfl hb4469) rfl rfl <| WL.skip (Unwanted.und rfl rfl rfl) rfl rfl <| WL.skip (Unwanted.und rfl rfl rfl) rfl rfl <| WL.skip (Unwanted.on rfl rfl rfl hb4469) rfl rfl <| WL.p rfl rfl rfl (.s 51 rfl (.k .nil)) (q_pickT rfl hb4469) <| WL.p rfl rfl rfl (.s 59 rfl .nil) (q_assign rfl) <| WL.nil ?_
      exact QN.weaken (.one rfl (.nil _)) (Kj4467 () true h)
     ·refine WL.q (Wanted.on rfl rfl rfl hb4469) rfl rfl (.s 2 rfl .nil) (q_field rfl fo86_0 rfl).o <| WL.q (Wanted.on rfl rfl rfl hb4469) rfl rfl (.s 52 rfl .nil) (q_load rfl sh3).o <| WL.q (Wanted.on rfl rfl rfl hb4469) rfl rfl (.s 53 rfl (.k .nil)) (q_int rfl rfl).o <| WL.q (Wanted.on rfl rfl rfl hb4469) rfl rfl (.s 54 rfl .nil) (q_move rfl).o ?_
      rcases bif_s h with ⟨hb4470, h⟩ | ⟨hb4470, h⟩
      ·refine WL.q (Wanted.on rfl rfl rfl hb4470) rfl rfl (.s 12 rfl .nil) (q_move rfl).o <| WL.q (Wanted.on rfl rfl rfl hb4470) rfl rfl (.s 56 rfl (.k .nil)) (q_int rfl rfl).o <| WL.q (Wanted.on rfl rfl rfl hb4469) rfl rfl (.s 55 rfl (.s 57 rfl .nil)) (q_pickT rfl hb4470).o <| WL.p rfl rfl rfl (.s 51 rfl (.s 58 rfl .nil)) (q_pickF rfl hb4469) <| WL.p rfl rfl rfl (.s 59 rfl .nil) (q_assign rfl) <| WL.nil ?_
       exact QN.weaken (.one rfl (.nil _)) (Kj4467 () (t4461 == 0) h)
      ·refine WL.skip (Unwanted.on rfl rfl rfl hb4470) rfl rfl <| WL.skip (Unwanted.on rfl rfl rfl hb4470) rfl rfl <| WL.q (Wanted.on rfl rfl rfl hb4469) rfl rfl (.s 55 rfl (.k .nil)) (q_pickF rfl hb4470).o <| WL.p rfl rfl rfl (.s 51 rfl (.s 58 rfl .nil)) (q_pickF rfl hb4469) <| WL.p rfl rfl rfl (.s 59 rfl .nil) (q_assign rfl) <| WL.nil ?_
       exact QN.weaken (.one rfl (.nil _)) (Kj4467 () false h)
    ·refine WL.skip (Unwanted.on rfl rfl rfl hb4468) rfl rfl <| WL.skip (Unwanted.on rfl rfl rfl hb4468) rfl rfl <| WL.p rfl rfl rfl (.s 47 rfl (.k .nil)) (q_pickF rfl hb4468) <| WL.p rfl rfl rfl (.s 50 rfl .nil) (q_move rfl) <| WL.q (Wanted.on rfl rfl rfl rfl) rfl rfl (.s 2 rfl .nil) (q_field rfl fo86_0 rfl).o <| WL.q (Wanted.on rfl rfl rfl rfl) rfl rfl (.s 52 rfl .nil) (q_load rfl sh3).o <| WL.q (Wanted.on rfl rfl rfl rfl) rfl rfl (.s 53 rfl (.k .nil)) (q_int rfl rfl).o <| WL.q (Wanted.on rfl rfl rfl rfl) rfl rfl (.s 54 rfl .nil) (q_move rfl).o ?_
     rcases bif_s h with ⟨hb4471, h⟩ | ⟨hb4471, h⟩
     ·refine WL.q (Wanted.on rfl rfl rfl hb4471) rfl rfl (.s 12 rfl .nil) (q_move rfl).o <| WL.q (Wanted.on rfl rfl rfl hb4471) rfl rfl (.s 56 rfl (.k .nil)) (q_int rfl rfl).o <| WL.q (Wanted.on rfl rfl rfl rfl) rfl rfl (.s 55 rfl (.s 57 rfl .nil)) (q_pickT rfl hb4471).o <| WL.p rfl rfl rfl (.s 51 rfl (.s 58 rfl .nil)) (q_pickF rfl rfl) <| WL.p rfl rfl rfl (.s 59 rfl .nil) (q_assign rfl) <| WL.nil ?_
      exact QN.weaken (.one rfl (.nil _)) (Kj4467 () (t4461 == 0) h)
     ·refine WL.skip (Unwanted.on rfl rfl rfl hb4471) rfl rfl <| WL.skip (Unwanted.on rfl rfl rfl hb4471) rfl rfl <| WL.q (Wanted.on rfl rfl rfl rfl) rfl rfl (.s 55 rfl (.k .nil)) (q_pickF rfl hb4471).o <| WL.p rfl rfl rfl (.s 51 rfl (.s 58 rfl .nil)) (q_pickF rfl rfl) <| WL.p rfl rfl rfl (.s 59 rfl .nil) (q_assign rfl) <| WL.nil ?_
      exact QN.weaken (.one rfl (.nil _)) (Kj4467 () false h)
 ·refine W.region <| WL.p rfl rfl rfl (.s 8 rfl .nil) (q_move rfl) <| WL.p rfl rfl rfl (.s 30 rfl .nil) (q_not rfl) <| WL.p rfl rfl rfl (.s 31 rfl .nil) (q_move rfl) ?_
  rcases bif_s h with ⟨hb4472, h⟩ | ⟨hb4472, h⟩
  ·refine WL.skip (Unwanted.on rfl rfl rfl hb4472) rfl rfl <| WL.skip (Unwanted.on rfl rfl rfl hb4472) rfl rfl <| WL.p rfl rfl rfl (.s 32 rfl (.k .nil)) (q_pickT rfl hb4472) <| WL.nil ?_
   exact QN.weaken (.one rfl (.one rfl (.one rfl (.one rfl (.one rfl (.one rfl (.nil _))))))) (Kj4457 () true h)
  ·refine WL.q (Wanted.on rfl rfl rfl hb4472) rfl rfl (.s 11 rfl .nil) (q_move rfl).o <| WL.q (Wanted.on rfl rfl rfl hb4472) rfl rfl (.s 33 rfl .nil) (q_not rfl).o <| WL.p rfl rfl rfl (.s 32 rfl (.s 34 rfl .nil)) (q_pickF rfl hb4472) <| WL.nil ?_
   exact QN.weaken (.one rfl (.one rfl (.one rfl (.one rfl (.one rfl (.one rfl (.nil _))))))) (Kj4457 () (!t4454.2.2) h)
theorem attribute_solve.con (k : Nat) (a0 : Pattern) (a1 : Host) (a2 : Morphism) (r : ((List Int) × Int)) (h : attribute_solve k a0 a1 a2 = some r) : Con Tryz.prog 74 [] [AggA [SlcA kInt a0.fGraph.fNodes, SlcA kEdge a0.fGraph.fEdges, SlcA kSlot a0.fSlots, EqA (.int .i64 a0.fVars), SlcA kTest a0.fTests], AggA [SlcA kInt a1.fGraph.fNodes, SlcA kEdge a1.fGraph.fEdges, SlcA (kSl kInt) a1.fValues], AggA [SlcA kInt a2.fNodes, SlcA kInt a2.fEdges]] (RA (TupA [SlcA kInt r.1, EqA (.int .i64 r.2)])) := by
 unfold attribute_solve at h
 refine Con.of (N := 86) Tryz.func74 rfl rfl rfl fun w0_ fg_ => W.seq <| W.region <| WL.p rfl rfl rfl (.s 0 rfl .nil) (q_box rfl (CellsOf.agg _)) <| WL.p rfl rfl rfl (.s 1 rfl .nil) (q_box rfl (CellsOf.agg _)) <| WL.p rfl rfl rfl (.s 2 rfl .nil) (q_box rfl (CellsOf.agg _)) <| WL.p rfl rfl rfl (.k .nil) (q_assign rfl) <| WL.p rfl rfl rfl (.k .nil) (q_assign rfl) <| WL.nil <| QN.then_ <| W.seq ?_
 refine W.jn0 (Γ := (Value × Value)) (fun (g4481 : (Value × Value)) => [(3, PtrA [SlcA kInt a0.fGraph.fNodes, SlcA kEdge a0.fGraph.fEdges, SlcA kSlot a0.fSlots, EqA (.int .i64 a0.fVars), SlcA kTest a0.fTests]), (4, PtrA [SlcA kInt a1.fGraph.fNodes, SlcA kEdge a1.fGraph.fEdges, SlcA (kSl kInt) a1.fValues]), (5, PtrA [SlcA kInt a2.fNodes, SlcA kInt a2.fEdges]), (8, HdA g4481.1), (9, HdA g4481.2)]) (fun (g4481 : (Value × Value)) => [SlE 3 g4481.1 kInt (List.replicate (a0.fVars : Int).toNat (0 : Int)), SlE 4 g4481.2 kBool (List.replicate (a0.fVars : Int).toNat false)]) h (fun g4481 h => ?_) (fun j4486 Kj4486 h => ?_)
 ·refine QN.then_ <| W.seq <| W.seq <| W.region <| WL.p rfl rfl rfl (.s 3 rfl .nil) (q_field rfl fo42_1 rfl) <| WL.p rfl rfl rfl (.s 22 rfl .nil) (q_load rfl sh39) <| WL.p rfl rfl rfl (.s 23 rfl .nil) (q_len rfl elS39) <| WL.p rfl rfl rfl (.k .nil) (q_move rfl) <| WL.nil <| QN.then_ <| W.block ?_
  refine W.loop3 (Γ := Unit) (fun (_ : Unit) (_ : (List Int)) (_ : (List Bool)) (x25 : Int) => [(3, PtrA [SlcA kInt a0.fGraph.fNodes, SlcA kEdge a0.fGraph.fEdges, SlcA kSlot a0.fSlots, EqA (.int .i64 a0.fVars), SlcA kTest a0.fTests]), (4, PtrA [SlcA kInt a1.fGraph.fNodes, SlcA kEdge a1.fGraph.fEdges, SlcA (kSl kInt) a1.fValues]), (5, PtrA [SlcA kInt a2.fNodes, SlcA kInt a2.fEdges]), (8, HdA g4481.1), (9, HdA g4481.2), (23, SlcA kSlot a0.fSlots), (24, EqA (.int .i64 (a0.fSlots.length : Int))), (25, EqA (.int .i64 x25))]) (fun (_ : Unit) (x8 : (List Int)) (x9 : (List Bool)) (_ : Int) => [SlE 3 g4481.1 kInt x8, SlE 4 g4481.2 kBool x9]) h () (.one rfl (.one rfl (.one rfl (.one rfl (.one rfl (.one rfl (.one rfl (.one rfl (.nil _))))))))) rfl (fun rec0 K0 next0 _ x8 x9 x25 h => ?_)
  unfold attribute_solve.b0 at h
  refine W.seq <| W.region <| WL.p rfl rfl rfl (.s 25 rfl (.s 24 rfl .nil)) (q_int rfl rfl) <| WL.nil <| QN.then_ <| W.seq ?_
  refine W.condP h rfl (fun hb4585 h => ?_) (fun hb4585 h => ?_)
  ·refine W.skip <| QN.then_ <| W.seq <| W.block <| W.seq <| W.region ?_
   obtain ⟨c4586, h⟩ := ite_n h
   refine WL.p rfl rfl rfl (.s 23 rfl (.s 25 rfl .nil)) (q_index rfl el39 rfl c4586.1 c4586.2) <| WL.p rfl rfl rfl (.s 27 rfl .nil) (q_loadS rfl sh113 (leB rfl) rfl) <| WL.w [] rfl (Wanted.plain rfl) rfl rfl .nil (w_alloc rfl z113 (l := [EqA (.int .i64 0), EqA (.int .i64 0), EqA (.int .i64 0), EqA (.int .i64 0)]) rfl) ?_
   rintro _ _ ⟨b4587, rfl, rfl⟩
   refine WL.w0 [0] rfl (Wanted.plain rfl) rfl (.s 11 rfl (.s 28 rfl .nil)) (w_store (L := [EqA (.int .i64 ((rd a0.fSlots x25).fNode)), EqA (.int .i64 ((rd a0.fSlots x25).fAttr)), EqA (.int .i64 ((rd a0.fSlots x25).fTerm.fVar)), EqA (.int .i64 ((rd a0.fSlots x25).fTerm.fAdd))]) rfl sh113 (CellsOf.agg _) rfl rfl (leB rfl) rfl) ?_
   rintro _ _ ⟨rfl, rfl⟩
   refine WL.nil <| QN.to (StTo.still [0] 11 rfl rfl) <| QN.then_ <| W.seq <| W.drawK [(0, false), (1, false), (2, false), (3, false), (4, false), (5, false), (6, false), (7, false), (8, false), (9, false), (10, false), (11, false), (12, false), (13, false), (14, false)] [] [[], [0], [], [2], [], [4], [2, 3, 4, 5], [2, 3, 4, 5, 6], [0, 1, 2, 3, 4, 5, 6, 7], [0, 1, 2, 3, 4, 5, 6, 7, 8], [], [10], [0, 1, 2, 3, 4, 5, 6, 7, 8, 9, 10, 11], [0, 1, 2, 3, 4, 5, 6, 7, 8, 9, 10, 11, 12], [0, 1, 2, 3, 4, 5, 6, 7, 8, 9, 10, 11, 12, 13]] mx (by kernel_rfl) <| DK.cons rfl rfl (.p rfl (.s 4 rfl .nil) rfl (q_field rfl fo60_1 rfl)) <| DK.cons rfl rfl (.p rfl (.s 29 rfl .nil) rfl (q_load rfl sh58)) <| DK.cons rfl rfl (.p rfl (.s 5 rfl .nil) rfl (q_field rfl fo64_0 rfl)) <| DK.cons rfl rfl (.p rfl (.s 31 rfl .nil) rfl (q_load rfl sh26)) <| DK.cons rfl rfl (.p rfl (.s 11 rfl .nil) rfl (q_field rfl fo113_0 rfl)) <| DK.cons rfl rfl (.p rfl (.s 33 rfl .nil) rfl (q_load rfl sh3)) ?_
   obtain ⟨c4594, h⟩ := ite_n h
   refine DK.cons rfl rfl (.p rfl (.s 32 rfl (.s 34 rfl .nil)) rfl (q_index rfl el26 rfl c4594.1 c4594.2)) <| DK.cons rfl rfl (.p rfl (.s 35 rfl .nil) rfl (q_load rfl sh3)) ?_
   obtain ⟨c4595, h⟩ := ite_n h
   refine DK.cons rfl rfl (.p rfl (.s 30 rfl (.s 36 rfl .nil)) rfl (q_index rfl el58 rfl c4595.1 c4595.2)) <| DK.cons rfl rfl (.p rfl (.s 37 rfl .nil) rfl (q_load rfl sh26)) <| DK.cons rfl rfl (.p rfl (.s 11 rfl .nil) rfl (q_field rfl fo113_1 rfl)) <| DK.cons rfl rfl (.p rfl (.s 39 rfl .nil) rfl (q_load rfl sh3)) ?_
   obtain ⟨c4596, h⟩ := ite_n h
   refine DK.cons rfl rfl (.p rfl (.s 38 rfl (.s 40 rfl .nil)) rfl (q_index rfl el26 rfl c4596.1 c4596.2)) <| DK.cons rfl rfl (.p rfl (.s 41 rfl .nil) rfl (q_load rfl sh3)) <| DK.cons rfl rfl (.p rfl (.s 42 rfl .nil) rfl (q_assign rfl)) <| DK.nil <| CSteps.nil <| QN.weaken (env' := [(12, _), (11, _), (25, _), (24, _), (23, _), (9, _), (8, _), (5, _), (4, _), (3, _)]) (.one rfl (.one rfl (.one rfl (.one rfl (.one rfl (.one rfl (.one rfl (.one rfl (.one rfl (.one rfl (.nil _))))))))))) <| QN.then_ <| W.seq <| W.seq <| W.region <| WL.p rfl rfl rfl (.s 11 rfl .nil) (q_field rfl fo113_2 rfl) <| WL.p rfl rfl rfl (.s 43 rfl .nil) (q_field rfl fo23_0 rfl) <| WL.p rfl rfl rfl (.s 44 rfl .nil) (q_load rfl sh3) ?_
   refine WL.p rfl rfl rfl (.s 45 rfl .nil) (q_assign rfl) <| WL.nil <| QN.then_ <| W.seq ?_
   refine W.jn1 (Γ := Unit) (fun (_ : Unit) (x54 : Bool) => [(3, PtrA [SlcA kInt a0.fGraph.fNodes, SlcA kEdge a0.fGraph.fEdges, SlcA kSlot a0.fSlots, EqA (.int .i64 a0.fVars), SlcA kTest a0.fTests]), (4, PtrA [SlcA kInt a1.fGraph.fNodes, SlcA kEdge a1.fGraph.fEdges, SlcA (kSl kInt) a1.fValues]), (5, PtrA [SlcA kInt a2.fNodes, SlcA kInt a2.fEdges]), (8, HdA g4481.1), (9, HdA g4481.2), (23, SlcA kSlot a0.fSlots), (24, EqA (.int .i64 (a0.fSlots.length : Int))), (25, EqA (.int .i64 x25)), (11, PtrA [EqA (.int .i64 ((rd a0.fSlots x25).fNode)), EqA (.int .i64 ((rd a0.fSlots x25).fAttr)), EqA (.int .i64 ((rd a0.fSlots x25).fTerm.fVar)), EqA (.int .i64 ((rd a0.fSlots x25).fTerm.fAdd))]), (12, EqA (.int .i64 (rd (rd a1.fValues (rd a2.fNodes ((rd a0.fSlots x25).fNode))) ((rd a0.fSlots x25).fAttr)))), (13, EqA (.int .i64 ((rd a0.fSlots x25).fTerm.fVar))), (54, EqA (.bool x54))]) (fun (_ : Unit) (_ : Bool) => [SlE 3 g4481.1 kInt x8, SlE 4 g4481.2 kBool x9]) h (fun _ x54 h => ?_) (fun j4600 Kj4600 h => ?_)
   ·refine QN.then_ ?_
    refine W.jn2 (Γ := Unit) (fun (_ : Unit) (_ : (List Int)) (_ : (List Bool)) => [(3, PtrA [SlcA kInt a0.fGraph.fNodes, SlcA kEdge a0.fGraph.fEdges, SlcA kSlot a0.fSlots, EqA (.int .i64 a0.fVars), SlcA kTest a0.fTests]), (4, PtrA [SlcA kInt a1.fGraph.fNodes, SlcA kEdge a1.fGraph.fEdges, SlcA (kSl kInt) a1.fValues]), (5, PtrA [SlcA kInt a2.fNodes, SlcA kInt a2.fEdges]), (8, HdA g4481.1), (9, HdA g4481.2), (23, SlcA kSlot a0.fSlots), (24, EqA (.int .i64 (a0.fSlots.length : Int))), (25, EqA (.int .i64 x25)), (11, PtrA [EqA (.int .i64 ((rd a0.fSlots x25).fNode)), EqA (.int .i64 ((rd a0.fSlots x25).fAttr)), EqA (.int .i64 ((rd a0.fSlots x25).fTerm.fVar)), EqA (.int .i64 ((rd a0.fSlots x25).fTerm.fAdd))]), (12, EqA (.int .i64 (rd (rd a1.fValues (rd a2.fNodes ((rd a0.fSlots x25).fNode))) ((rd a0.fSlots x25).fAttr))))]) (fun (_ : Unit) (x8' : (List Int)) (x9' : (List Bool)) => [SlE 3 g4481.1 kInt x8', SlE 4 g4481.2 kBool x9']) h (fun _ x8' x9' h => ?_) (fun j4606 Kj4606 h => ?_)
    ·refine QN.then_ <| W.seq <| W.region <| WL.p rfl rfl rfl (.s 11 rfl .nil) (q_field rfl fo113_2 rfl) <| WL.p rfl rfl rfl (.s 66 rfl .nil) (q_loadS rfl sh23 (leB rfl) rfl) <| WL.p rfl rfl rfl (.s 8 rfl .nil) (q_move rfl) ?_
     obtain ⟨t4607, ht4607, h⟩ := bind_s h
     refine WL.q (Wanted.plain rfl) rfl rfl (.s 67 rfl (.s 68 rfl .nil)) (q_lend (f := 41) (A := EqA (.int .i64 t4607)) (xs := [.tmp 67, .tmp 68]) («as» := [AggA [EqA (.int .i64 ((rd a0.fSlots x25).fTerm.fVar)), EqA (.int .i64 ((rd a0.fSlots x25).fTerm.fAdd))], HdA g4481.1]) rfl ca41 (attribute_value.con k ((rd a0.fSlots x25).fTerm) x8' t4607 ht4607) rfl (.cons (.id _) (.cons (.slc 0 rfl) .nil)) (Flat.eq _)) <| WL.p rfl rfl rfl (.s 12 rfl .nil) (q_move rfl) <| WL.p rfl rfl rfl (.s 69 rfl (.s 70 rfl .nil)) (q_int rfl rfl) <| WL.nil <| QN.weaken (env' := [(71, _), (25, _), (24, _), (23, _), (9, _), (8, _), (5, _), (4, _), (3, _)]) (.one rfl (.one rfl (.one rfl (.one rfl (.one rfl (.one rfl (.one rfl (.one rfl (.one rfl (.nil _)))))))))) <| QN.then_ ?_
     refine W.condP h rfl (fun hb4608 h => ?_) (fun hb4608 h => ?_)
     ·refine W.seq <| W.region <| WL.p rfl rfl rfl (.k .nil) (q_assign rfl) <| WL.p rfl rfl rfl (.k .nil) (q_assign rfl) <| WL.nil <| QN.weaken (env' := [(7, _), (6, _)]) (.one rfl (.one rfl (.nil _))) <| QN.then_ <| W.ret <| QR.block <| QR.then_ <| QR.then_ <| QR.block <| QR.then_ ?_
      cases h
      exact QR.f2 rfl rfl (.t rfl) (.t rfl) (.imp (Imp.tup (.cons (Imp.nil kInt) (.cons (Imp.id _) .nil))))
     ·refine W.skip <| QN.block <| QN.then_ <| W.region ?_
      obtain ⟨c4609, h⟩ := ite_n h
      refine WL.p rfl rfl rfl (.s 25 rfl (.k .nil)) (q_addR rfl c4609) <| WL.p rfl rfl rfl (.s 72 rfl .nil) (q_move rfl) <| WL.nil ?_
      exact next0 () x8' x9' (x25 + 1) _ h (.one rfl (.one rfl (.one rfl (.one rfl (.one rfl (.one rfl (.one rfl (.one rfl (.nil _)))))))))
    ·refine W.condP h rfl (fun hb4610 h => ?_) (fun hb4610 h => ?_)
     ·refine W.region <| WL.p rfl rfl rfl (.s 8 rfl .nil) (q_move rfl) <| WL.p rfl rfl rfl (.s 13 rfl .nil) (q_move rfl) <| WL.p rfl rfl rfl (.s 9 rfl .nil) (q_move rfl) <| WL.p rfl rfl rfl (.s 13 rfl .nil) (q_move rfl) <| WL.p rfl rfl rfl (.s 12 rfl .nil) (q_move rfl) <| WL.p rfl rfl rfl (.s 11 rfl .nil) (q_field rfl fo113_2 rfl) <| WL.p rfl rfl rfl (.s 60 rfl .nil) (q_field rfl fo23_1 rfl) <| WL.p rfl rfl rfl (.s 61 rfl .nil) (q_load rfl sh3) ?_
      obtain ⟨c4611, h⟩ := ite_n h
      refine WL.p rfl rfl rfl (.s 59 rfl (.s 62 rfl .nil)) (q_subR rfl c4611) ?_
      obtain ⟨c4612, h⟩ := ite_n h
      refine WL.q (Wanted.plain rfl) rfl rfl (.s 55 rfl (.s 56 rfl .nil)) (q_indexO rfl el26 (j := 0) rfl c4612.1 c4612.2) <| WL.w0 [0] rfl (Wanted.plain rfl) rfl (.s 64 rfl (.s 63 rfl .nil)) (w_storeEl (kd := kInt) (z := ((rd (rd a1.fValues (rd a2.fNodes ((rd a0.fSlots x25).fNode))) ((rd a0.fSlots x25).fAttr)) - (rd a0.fSlots x25).fTerm.fAdd)) rfl sh3 (CellsOf.one rfl) rfl rfl rfl c4612.1 c4612.2 rfl rfl) ?_
      rintro _ _ ⟨rfl, rfl⟩
      obtain ⟨c4613, h⟩ := ite_n h
      refine WL.q (Wanted.plain rfl) rfl rfl (.s 57 rfl (.s 58 rfl .nil)) (q_indexO rfl el111 (j := 1) rfl c4613.1 c4613.2) <| WL.w0 [1] rfl (Wanted.plain rfl) rfl (.s 65 rfl (.k .nil)) (w_storeEl (kd := kBool) (z := true) rfl sh4 (CellsOf.one rfl) rfl rfl rfl c4613.1 c4613.2 rfl rfl) ?_
      rintro _ _ ⟨rfl, rfl⟩
      refine WL.nil <| QN.order [1, 0] rfl ?_
      exact QN.weaken (.one rfl (.one rfl (.one rfl (.one rfl (.one rfl (.one rfl (.one rfl (.one rfl (.one rfl (.one rfl (.nil _))))))))))) (Kj4606 () (x8.set ((rd a0.fSlots x25).fTerm.fVar : Int).toNat ((rd (rd a1.fValues (rd a2.fNodes ((rd a0.fSlots x25).fNode))) ((rd a0.fSlots x25).fAttr)) - (rd a0.fSlots x25).fTerm.fAdd)) (x9.set ((rd a0.fSlots x25).fTerm.fVar : Int).toNat true) h)
     ·refine W.skip ?_
      exact QN.weaken (.one rfl (.one rfl (.one rfl (.one rfl (.one rfl (.one rfl (.one rfl (.one rfl (.one rfl (.one rfl (.nil _))))))))))) (Kj4606 () x8 x9 h)
   ·refine W.region <| WL.p rfl rfl rfl (.s 13 rfl .nil) (q_move rfl) <| WL.p rfl rfl rfl (.s 46 rfl (.k .nil)) (q_int rfl rfl) <| WL.p rfl rfl rfl (.s 47 rfl .nil) (q_move rfl) ?_
    rcases bif_s h with ⟨hb4614, h⟩ | ⟨hb4614, h⟩
    ·refine WL.q (Wanted.on rfl rfl rfl hb4614) rfl rfl (.s 9 rfl .nil) (q_move rfl).o <| WL.q (Wanted.on rfl rfl rfl hb4614) rfl rfl (.s 13 rfl .nil) (q_move rfl).o ?_
     obtain ⟨c4615, h⟩ := ite_n h
     refine WL.q (Wanted.on rfl rfl rfl hb4614) rfl rfl (.s 49 rfl (.s 50 rfl .nil)) (q_indexO rfl el111 (j := 1) rfl c4615.1 c4615.2) <| WL.q (Wanted.on rfl rfl rfl hb4614) rfl rfl (.s 51 rfl .nil) (q_loadEl rfl sh4 (j := 1) rfl rfl c4615.1 c4615.2 rfl) <| WL.q (Wanted.on rfl rfl rfl hb4614) rfl rfl (.s 52 rfl .nil) (q_not rfl).o <| WL.p rfl rfl rfl (.s 48 rfl (.s 53 rfl .nil)) (q_pickT rfl hb4614) <| WL.nil ?_
     exact QN.weaken (.one rfl (.one rfl (.one rfl (.one rfl (.one rfl (.one rfl (.one rfl (.one rfl (.one rfl (.one rfl (.one rfl (.one rfl (.nil _))))))))))))) (Kj4600 () (!(rd x9 ((rd a0.fSlots x25).fTerm.fVar))) h)
    ·refine WL.skip (Unwanted.on rfl rfl rfl hb4614) rfl rfl <| WL.skip (Unwanted.on rfl rfl rfl hb4614) rfl rfl <| WL.skip (Unwanted.on rfl rfl rfl hb4614) rfl rfl <| WL.skip (Unwanted.on rfl rfl rfl hb4614) rfl rfl <| WL.skip (Unwanted.on rfl rfl rfl hb4614) rfl rfl <| WL.p rfl rfl rfl (.s 48 rfl (.k .nil)) (q_pickF rfl hb4614) <| WL.nil ?_
     exact QN.weaken (.one rfl (.one rfl (.one rfl (.one rfl (.one rfl (.one rfl (.one rfl (.one rfl (.one rfl (.one rfl (.one rfl (.one rfl (.nil _))))))))))))) (Kj4600 () false h)
  ·refine W.exit <| QX.then_ <| QX.then_ <| QX.here <| QN.weaken (env' := [(8, _), (3, _)]) (.one rfl (.one rfl (.nil _))) <| QN.then_ <| W.seq <| W.seq <| W.region <| WL.p rfl rfl rfl (.s 3 rfl .nil) (q_field rfl fo42_3 rfl) <| WL.p rfl rfl rfl (.s 73 rfl .nil) (q_load rfl sh40) <| WL.p rfl rfl rfl (.s 74 rfl .nil) (q_len rfl elS40) <| WL.p rfl rfl rfl (.k .nil) (q_move rfl) ?_
   refine WL.nil <| QN.then_ <| W.block <| W.drop [1] rfl ?_
   refine W.loop1 (Γ := Unit) (fun (_ : Unit) (x76 : Int) => [(8, HdA g4481.1), (74, SlcA kTest a0.fTests), (75, EqA (.int .i64 (a0.fTests.length : Int))), (76, EqA (.int .i64 x76))]) (fun (_ : Unit) (_ : Int) => [SlE 3 g4481.1 kInt x8]) h () (.one rfl (.one rfl (.one rfl (.one rfl (.nil _))))) rfl (fun rec1 K1 next1 _ x76 h => ?_)
   unfold attribute_solve.b1 at h
   refine W.seq <| W.region <| WL.p rfl rfl rfl (.s 76 rfl (.s 75 rfl .nil)) (q_int rfl rfl) <| WL.nil <| QN.then_ <| W.seq ?_
   refine W.condP h rfl (fun hb4628 h => ?_) (fun hb4628 h => ?_)
   ·refine W.skip <| QN.then_ <| W.seq <| W.block <| W.seq <| W.region ?_
    obtain ⟨c4629, h⟩ := ite_n h
    refine WL.p rfl rfl rfl (.s 74 rfl (.s 76 rfl .nil)) (q_index rfl el40 rfl c4629.1 c4629.2) <| WL.p rfl rfl rfl (.s 78 rfl .nil) (q_loadS rfl sh86 (leB rfl) rfl) <| WL.w [] rfl (Wanted.plain rfl) rfl rfl .nil (w_alloc rfl z86 (l := [EqA (.int .i64 0), EqA (.int .i64 0), EqA (.int .i64 0), EqA (.int .i64 0), EqA (.int .i64 0)]) rfl) ?_
    rintro _ _ ⟨b4630, rfl, rfl⟩
    refine WL.w0 [0] rfl (Wanted.plain rfl) rfl (.s 15 rfl (.s 79 rfl .nil)) (w_store (L := [EqA (.int .i64 ((rd a0.fTests x76).fKind)), EqA (.int .i64 ((rd a0.fTests x76).fLeft.fVar)), EqA (.int .i64 ((rd a0.fTests x76).fLeft.fAdd)), EqA (.int .i64 ((rd a0.fTests x76).fRight.fVar)), EqA (.int .i64 ((rd a0.fTests x76).fRight.fAdd))]) rfl sh86 (CellsOf.agg _) rfl rfl (leB rfl) rfl) ?_
    rintro _ _ ⟨rfl, rfl⟩
    refine WL.nil <| QN.to (StTo.still [0] 15 rfl rfl) <| QN.then_ <| W.seq <| W.region <| WL.p rfl rfl rfl (.s 15 rfl .nil) (q_loadS rfl sh86 (leB rfl) rfl) <| WL.p rfl rfl rfl (.s 8 rfl .nil) (q_move rfl) ?_
    obtain ⟨t4631, ht4631, h⟩ := bind_s h
    refine WL.q (Wanted.plain rfl) rfl rfl (.s 80 rfl (.s 81 rfl .nil)) (q_lend (f := 122) (A := EqA (.bool t4631)) (xs := [.tmp 80, .tmp 81]) («as» := [AggA [EqA (.int .i64 ((rd a0.fTests x76).fKind)), EqA (.int .i64 ((rd a0.fTests x76).fLeft.fVar)), EqA (.int .i64 ((rd a0.fTests x76).fLeft.fAdd)), EqA (.int .i64 ((rd a0.fTests x76).fRight.fVar)), EqA (.int .i64 ((rd a0.fTests x76).fRight.fAdd))], HdA g4481.1]) rfl ca122 (difference_Holds.con k (rd a0.fTests x76) x8 t4631 ht4631) rfl (.cons (.id _) (.cons (.slc 0 rfl) .nil)) (Flat.eq _)) <| WL.p rfl rfl rfl (.s 82 rfl .nil) (q_not rfl) <| WL.nil <| QN.weaken (env' := [(83, _), (76, _), (75, _), (74, _), (8, _)]) (.one rfl (.one rfl (.one rfl (.one rfl (.one rfl (.nil _)))))) <| QN.then_ ?_
    refine W.condP h rfl (fun hb4632 h => ?_) (fun hb4632 h => ?_)
    ·refine W.seq <| W.region <| WL.p rfl rfl rfl (.k .nil) (q_assign rfl) <| WL.p rfl rfl rfl (.k .nil) (q_assign rfl) <| WL.nil <| QN.then_ <| W.ret <| QR.block <| QR.then_ <| QR.then_ <| QR.block <| QR.then_ ?_
     cases h
     exact QR.f2 rfl rfl (.t rfl) (.t rfl) (.imp (Imp.tup (.cons (Imp.nil kInt) (.cons (Imp.id _) .nil))))
    ·refine W.skip <| QN.block <| QN.then_ <| W.region ?_
     obtain ⟨c4633, h⟩ := ite_n h
     refine WL.p rfl rfl rfl (.s 76 rfl (.k .nil)) (q_addR rfl c4633) <| WL.p rfl rfl rfl (.s 84 rfl .nil) (q_move rfl) <| WL.nil ?_
     exact next1 () (x76 + 1) _ h (.one rfl (.one rfl (.one rfl (.one rfl (.nil _)))))
   ·refine W.exit <| QX.then_ <| QX.then_ <| QX.here <| QN.then_ <| W.seq <| W.region <| WL.p rfl rfl rfl (.s 8 rfl .nil) (q_move rfl) <| WL.p rfl rfl rfl (.s 85 rfl .nil) (q_assign rfl) <| WL.p rfl rfl rfl (.k .nil) (q_assign rfl) <| WL.nil <| QN.then_ <| W.ret ?_
    cases h
    exact QR.f2 rfl rfl (.t rfl) (.t rfl) (.tup (.cons (.slc 0 rfl) (.cons (.id _) .nil)))
 ·refine W.drawKT [(0, false), (1, false), (3, false), (4, false)] [2, 5, 6, 7] [2, 5, 6, 7] 4 [[], [0], [0, 1], [], [3], [3, 4], [0, 1, 2], [0, 1, 2, 3, 4, 5, 6]] mx (by kernel_rfl) <| DKT.cons rfl rfl (.p rfl (.s 3 rfl .nil) rfl (q_field rfl fo42_2 rfl)) <| DKT.cons rfl rfl (.p rfl (.s 16 rfl .nil) rfl (q_load rfl sh3)) ?_
  obtain ⟨c4634, h⟩ := ite_n h
  refine DKT.cons rfl rfl (.p rfl (.s 3 rfl .nil) rfl (q_field rfl fo42_2 rfl)) <| DKT.cons rfl rfl (.p rfl (.s 19 rfl .nil) rfl (q_load rfl sh3)) ?_
  obtain ⟨c4636, h⟩ := ite_n h
  refine DKT.nil <| CT.step ?_
  refine CTc.yes rfl ?_ ?_
  ·refine CStep1.w [] (fun _ => rfl) rfl rfl rfl rfl (.s 17 rfl (.s 17 rfl .nil)) rfl (w_make (kd := kInt) (z := (0 : Int)) rfl el26 rfl gr3 z3 rfl c4634.1 c4634.2) ?_
   rintro _ _ ⟨v4635, rfl, rfl⟩
   refine CT.list (l' := [5, 6, 7]) rfl <| CT.step ?_
   refine CTc.yes rfl ?_ ?_
   ·refine CStep1.w [] (fun _ => rfl) rfl rfl rfl rfl (.s 20 rfl (.s 20 rfl .nil)) rfl (w_make (kd := kBool) (z := false) rfl el111 rfl gr4 z4 rfl c4636.1 c4636.2) ?_
    rintro _ _ ⟨v4637, rfl, rfl⟩
    refine CT.list (l' := [6, 7]) rfl <| CT.step ?_
    refine CTc.yes rfl ?_ ?_
    ·refine CStep1.p rfl rfl rfl (.s 18 rfl .nil) rfl (q_assign rfl) <| CT.list (l' := [7]) rfl <| CT.step ?_
     refine CTc.yes rfl ?_ ?_
     ·refine CStep1.p rfl rfl rfl (.s 21 rfl .nil) rfl (q_assign rfl) <| CT.list (l' := []) rfl <| CT.nil <| QN.order [1, 0] rfl ?_
      exact QN.weaken (.one rfl (.one rfl (.one rfl (.one rfl (.one rfl (.nil _)))))) (Kj4486 (v4635, v4637) h)
     exact CTc.end
    refine CTc.no rfl ?_
    exact CTc.end
   refine CTc.yes rfl ?_ ?_
   ·refine CStep1.p rfl rfl rfl (.s 18 rfl .nil) rfl (q_assign rfl) <| CT.list (l' := [5, 7]) rfl <| CT.step ?_
    refine CTc.yes rfl ?_ ?_
    ·refine CStep1.w [] (fun _ => rfl) rfl rfl rfl rfl (.s 20 rfl (.s 20 rfl .nil)) rfl (w_make (kd := kBool) (z := false) rfl el111 rfl gr4 z4 rfl c4636.1 c4636.2) ?_
     rintro _ _ ⟨v4637, rfl, rfl⟩
     refine CT.list (l' := [7]) rfl <| CT.step ?_
     refine CTc.yes rfl ?_ ?_
     ·refine CStep1.p rfl rfl rfl (.s 21 rfl .nil) rfl (q_assign rfl) <| CT.list (l' := []) rfl <| CT.nil <| QN.order [1, 0] rfl ?_
      exact QN.weaken (.one rfl (.one rfl (.one rfl (.one rfl (.one rfl (.nil _)))))) (Kj4486 (v4635, v4637) h)
     exact CTc.end
    refine CTc.no rfl ?_
    exact CTc.end
   refine CTc.no rfl ?_
   exact CTc.end
  refine CTc.yes rfl ?_ ?_
  ·refine CStep1.w [] (fun _ => rfl) rfl rfl rfl rfl (.s 20 rfl (.s 20 rfl .nil)) rfl (w_make (kd := kBool) (z := false) rfl el111 rfl gr4 z4 rfl c4636.1 c4636.2) ?_
   rintro _ _ ⟨v4637, rfl, rfl⟩
   refine CT.list (l' := [2, 6, 7]) rfl <| CT.step ?_
   refine CTc.yes rfl ?_ ?_
   ·refine CStep1.w [] (fun _ => rfl) rfl rfl rfl rfl (.s 17 rfl (.s 17 rfl .nil)) rfl (w_make (kd := kInt) (z := (0 : Int)) rfl el26 rfl gr3 z3 rfl c4634.1 c4634.2) ?_
    rintro _ _ ⟨v4635, rfl, rfl⟩
    refine CT.list (l' := [6, 7]) rfl <| CT.step ?_
    refine CTc.yes rfl ?_ ?_
    ·refine CStep1.p rfl rfl rfl (.s 18 rfl .nil) rfl (q_assign rfl) <| CT.list (l' := [7]) rfl <| CT.step ?_
     refine CTc.yes rfl ?_ ?_
     ·refine CStep1.p rfl rfl rfl (.s 21 rfl .nil) rfl (q_assign rfl) <| CT.list (l' := []) rfl <| CT.nil ?_
      exact QN.weaken (.one rfl (.one rfl (.one rfl (.one rfl (.one rfl (.nil _)))))) (Kj4486 (v4635, v4637) h)
     exact CTc.end
    refine CTc.no rfl ?_
    exact CTc.end
   refine CTc.no rfl <| CTc.no rfl ?_
   exact CTc.end
  refine CTc.no rfl <| CTc.no rfl ?_
  exact CTc.end
theorem attribute_Matches.con (k : Nat) (a0 : Types) (a1 : Pattern) (a2 : Host) (a3 : Bool) (r : ((List Match) × Int)) (h : attribute_Matches k a0 a1 a2 a3 = some r) : Con Tryz.prog 29 [] [AggA [SlcA kNodeType a0.fNodes, SlcA kEdgeType a0.fEdges], AggA [SlcA kInt a1.fGraph.fNodes, SlcA kEdge a1.fGraph.fEdges, SlcA kSlot a1.fSlots, EqA (.int .i64 a1.fVars), SlcA kTest a1.fTests], AggA [SlcA kInt a2.fGraph.fNodes, SlcA kEdge a2.fGraph.fEdges, SlcA (kSl kInt) a2.fValues], EqA (.bool a3)] (RA (TupA [SlcA kMatch r.1, EqA (.int .i64 r.2)])) := by
 unfold attribute_Matches at h
 refine Con.of (N := 61) Tryz.func29 rfl rfl rfl fun w0_ fg_ => W.seq <| W.region <| WL.p rfl rfl rfl (.s 0 rfl .nil) (q_box rfl (CellsOf.agg _)) <| WL.p rfl rfl rfl (.s 1 rfl .nil) (q_box rfl (CellsOf.agg _)) <| WL.p rfl rfl rfl (.s 2 rfl .nil) (q_box rfl (CellsOf.agg _)) <| WL.p rfl rfl rfl (.k .nil) (q_assign rfl) <| WL.p rfl rfl rfl (.k .nil) (q_assign rfl) <| WL.nil <| QN.then_ <| W.seq <| W.seq <| W.region ?_
 refine WL.p rfl rfl rfl (.s 4 rfl .nil) (q_loadS rfl sh35 (leB rfl) rfl) <| WL.p rfl rfl rfl (.s 5 rfl .nil) (q_loadS rfl sh42 (leB rfl) rfl) <| WL.p rfl rfl rfl (.s 6 rfl .nil) (q_loadS rfl sh60 (leB rfl) rfl) ?_
 obtain ⟨t4638, ht4638, h⟩ := bind_s h
 refine WL.p rfl rfl rfl (.s 18 rfl (.s 19 rfl (.s 20 rfl .nil))) (q_call (f := 72) (A := EqA (.int .i64 t4638)) (xs := [.tmp 18, .tmp 19, .tmp 20]) («as» := [AggA [SlcA kNodeType a0.fNodes, SlcA kEdgeType a0.fEdges], AggA [SlcA kInt a1.fGraph.fNodes, SlcA kEdge a1.fGraph.fEdges, SlcA kSlot a1.fSlots, EqA (.int .i64 a1.fVars), SlcA kTest a1.fTests], AggA [SlcA kInt a2.fGraph.fNodes, SlcA kEdge a2.fGraph.fEdges, SlcA (kSl kInt) a2.fValues]]) rfl ca72 (attribute_given.con k a0 a1 a2 t4638 ht4638) rfl) <| WL.p rfl rfl rfl (.s 21 rfl .nil) (q_assign rfl) <| WL.nil <| QN.weaken (env' := [(10, _), (6, _), (5, _), (4, _), (3, _)]) (.one rfl (.one rfl (.one rfl (.one rfl (.one rfl (.nil _)))))) <| QN.then_ <| W.seq <| W.region <| WL.p rfl rfl rfl (.s 10 rfl .nil) (q_move rfl) <| WL.p rfl rfl rfl (.s 22 rfl (.k .nil)) (q_int rfl rfl) <| WL.nil <| QN.then_ ?_
 refine W.condP h rfl (fun hb4639 h => ?_) (fun hb4639 h => ?_)
 ·refine W.seq <| W.region <| WL.p rfl rfl rfl (.s 10 rfl .nil) (q_move rfl) <| WL.p rfl rfl rfl (.k .nil) (q_assign rfl) <| WL.p rfl rfl rfl (.s 24 rfl .nil) (q_assign rfl) <| WL.nil <| QN.weaken (env' := [(9, _), (8, _)]) (.one rfl (.one rfl (.nil _))) <| QN.then_ <| W.ret <| QR.then_ ?_
  cases h
  exact QR.f2 rfl rfl (.t rfl) (.t rfl) (.imp (Imp.tup (.cons (Imp.nil kMatch) (.cons (Imp.id _) .nil))))
 ·refine W.skip <| QN.then_ <| W.seq <| W.region <| WL.p rfl rfl rfl (.s 4 rfl .nil) (q_loadS rfl sh35 (leB rfl) rfl) <| WL.p rfl rfl rfl (.s 5 rfl .nil) (q_field rfl fo42_0 rfl) <| WL.p rfl rfl rfl (.s 27 rfl .nil) (q_loadS rfl sh38 (leB rfl) rfl) <| WL.p rfl rfl rfl (.s 6 rfl .nil) (q_field rfl fo60_0 rfl) <| WL.p rfl rfl rfl (.s 29 rfl .nil) (q_loadS rfl sh38 (leB rfl) rfl) <| WL.p rfl rfl rfl (.s 3 rfl .nil) (q_move rfl) ?_
  obtain ⟨t4640, ht4640, h⟩ := bind_s h
  refine WL.p rfl rfl rfl (.s 26 rfl (.s 28 rfl (.s 30 rfl (.s 31 rfl .nil)))) (q_call (f := 78) (A := TupA [SlcA kMorphism t4640.1, EqA (.int .i64 t4640.2)]) (xs := [.tmp 26, .tmp 28, .tmp 30, .tmp 31]) («as» := [AggA [SlcA kNodeType a0.fNodes, SlcA kEdgeType a0.fEdges], AggA [SlcA kInt a1.fGraph.fNodes, SlcA kEdge a1.fGraph.fEdges], AggA [SlcA kInt a2.fGraph.fNodes, SlcA kEdge a2.fGraph.fEdges], EqA (.bool a3)]) rfl ca78 (search_All.con k a0 a1.fGraph a2.fGraph a3 t4640 ht4640) rfl) <| WL.p rfl rfl rfl (.s 32 rfl .nil) (q_move rfl) <| WL.p rfl rfl rfl (.s 25 rfl .nil) (q_extract rfl rfl) <| WL.p rfl rfl rfl (.s 25 rfl .nil) (q_extract rfl rfl) <| WL.p rfl rfl rfl (.s 33 rfl .nil) (q_assign rfl) <| WL.p rfl rfl rfl (.s 34 rfl .nil) (q_assign rfl) <| WL.nil <| QN.weaken (env' := [(12, _), (11, _), (6, _), (5, _)]) (.one rfl (.one rfl (.one rfl (.one rfl (.nil _))))) <| QN.then_ <| W.seq <| W.seq <| W.region <| WL.p rfl rfl rfl (.s 12 rfl .nil) (q_move rfl) ?_
  refine WL.p rfl rfl rfl (.s 35 rfl (.k .nil)) (q_int rfl rfl) <| WL.nil <| QN.then_ ?_
  refine W.condP h rfl (fun hb4641 h => ?_) (fun hb4641 h => ?_)
  ·refine W.seq <| W.region <| WL.p rfl rfl rfl (.s 12 rfl .nil) (q_move rfl) <| WL.p rfl rfl rfl (.k .nil) (q_assign rfl) <| WL.p rfl rfl rfl (.s 37 rfl .nil) (q_assign rfl) <| WL.nil <| QN.weaken (env' := [(9, _), (8, _)]) (.one rfl (.one rfl (.nil _))) <| QN.then_ <| W.ret <| QR.then_ ?_
   cases h
   exact QR.f2 rfl rfl (.t rfl) (.t rfl) (.imp (Imp.tup (.cons (Imp.nil kMatch) (.cons (Imp.id _) .nil))))
  ·refine W.skip <| QN.then_ <| W.seq <| W.region <| WL.p rfl rfl rfl (.k .nil) (q_assign rfl) <| WL.nil <| QN.then_ <| W.seq <| W.seq <| W.region <| WL.p rfl rfl rfl (.s 11 rfl .nil) (q_move rfl) <| WL.p rfl rfl rfl (.s 38 rfl .nil) (q_len rfl elS133) <| WL.p rfl rfl rfl (.k .nil) (q_move rfl) ?_
   refine WL.nil <| QN.then_ <| W.block <| W.to (StTo.newNil 76 kMatch) <| W.to (StTo.as 13 rfl Imp.nilHd) ?_
   refine W.loop2 (Γ := Value) (fun (g0 : Value) (_ : (List Match)) (x40 : Int) => [(5, PtrA [SlcA kInt a1.fGraph.fNodes, SlcA kEdge a1.fGraph.fEdges, SlcA kSlot a1.fSlots, EqA (.int .i64 a1.fVars), SlcA kTest a1.fTests]), (6, PtrA [SlcA kInt a2.fGraph.fNodes, SlcA kEdge a2.fGraph.fEdges, SlcA (kSl kInt) a2.fValues]), (13, HdA g0), (38, SlcA kMorphism t4640.1), (39, EqA (.int .i64 (t4640.1.length : Int))), (40, EqA (.int .i64 x40))]) (fun (g0 : Value) (x13 : (List Match)) (_ : Int) => [SlE 76 g0 kMatch x13]) h (.slice none 0 0) (.one rfl (.one rfl (.one rfl (.one rfl (.one rfl (.one rfl (.nil _))))))) rfl (fun rec0 K0 next0 g0 x13 x40 h => ?_)
   unfold attribute_Matches.b0 at h
   refine W.seq <| W.region <| WL.p rfl rfl rfl (.s 40 rfl (.s 39 rfl .nil)) (q_int rfl rfl) <| WL.nil <| QN.then_ <| W.seq ?_
   refine W.condP h rfl (fun hb4674 h => ?_) (fun hb4674 h => ?_)
   ·refine W.skip <| QN.then_ <| W.seq <| W.block <| W.seq <| W.region ?_
    obtain ⟨c4675, h⟩ := ite_n h
    refine WL.p rfl rfl rfl (.s 38 rfl (.s 40 rfl .nil)) (q_index rfl el133 rfl c4675.1 c4675.2) <| WL.p rfl rfl rfl (.s 42 rfl .nil) (q_loadS rfl sh64 (leB rfl) rfl) <| WL.w [] rfl (Wanted.plain rfl) rfl rfl .nil (w_alloc rfl z64 (l := [EqA (.slice none 0 0), EqA (.slice none 0 0)]) rfl) ?_
    rintro _ _ ⟨b4676, rfl, rfl⟩
    refine WL.w0 [0] rfl (Wanted.plain rfl) rfl (.s 15 rfl (.s 43 rfl .nil)) (w_store (L := [SlcA kInt ((rd t4640.1 x40).fNodes), SlcA kInt ((rd t4640.1 x40).fEdges)]) rfl sh64 (CellsOf.agg _) rfl rfl (leB rfl) rfl) ?_
    rintro _ _ ⟨rfl, rfl⟩
    refine WL.nil <| QN.to (StTo.still [0] 15 rfl rfl) <| QN.then_ <| W.seq <| W.region <| WL.p rfl rfl rfl (.s 5 rfl .nil) (q_loadS rfl sh42 (leB rfl) rfl) <| WL.p rfl rfl rfl (.s 6 rfl .nil) (q_loadS rfl sh60 (leB rfl) rfl) <| WL.p rfl rfl rfl (.s 15 rfl .nil) (q_loadS rfl sh64 (leB rfl) rfl) ?_
    obtain ⟨t4677, ht4677, h⟩ := bind_s h
    refine WL.p rfl rfl rfl (.s 45 rfl (.s 46 rfl (.s 47 rfl .nil))) (q_call (f := 74) (A := TupA [SlcA kInt t4677.1, EqA (.int .i64 t4677.2)]) (xs := [.tmp 45, .tmp 46, .tmp 47]) («as» := [AggA [SlcA kInt a1.fGraph.fNodes, SlcA kEdge a1.fGraph.fEdges, SlcA kSlot a1.fSlots, EqA (.int .i64 a1.fVars), SlcA kTest a1.fTests], AggA [SlcA kInt a2.fGraph.fNodes, SlcA kEdge a2.fGraph.fEdges, SlcA (kSl kInt) a2.fValues], AggA [SlcA kInt ((rd t4640.1 x40).fNodes), SlcA kInt ((rd t4640.1 x40).fEdges)]]) rfl ca74 (attribute_solve.con k a1 a2 (rd t4640.1 x40) t4677 ht4677) rfl) <| WL.p rfl rfl rfl (.s 48 rfl .nil) (q_move rfl) <| WL.p rfl rfl rfl (.s 44 rfl .nil) (q_extract rfl rfl) <| WL.p rfl rfl rfl (.s 44 rfl .nil) (q_extract rfl rfl) <| WL.p rfl rfl rfl (.s 49 rfl .nil) (q_assign rfl) <| WL.p rfl rfl rfl (.s 50 rfl .nil) (q_assign rfl) <| WL.nil <| QN.weaken (env' := [(17, _), (16, _), (15, _), (40, _), (39, _), (38, _), (13, _), (6, _), (5, _)]) (.one rfl (.one rfl (.one rfl (.one rfl (.one rfl (.one rfl (.one rfl (.one rfl (.one rfl (.nil _)))))))))) <| QN.then_ <| W.seq <| W.region <| WL.p rfl rfl rfl (.s 17 rfl .nil) (q_move rfl) <| WL.p rfl rfl rfl (.s 51 rfl (.k .nil)) (q_int rfl rfl) ?_
    refine WL.nil <| QN.then_ ?_
    refine W.condP h rfl (fun hb4681 h => ?_) (fun hb4681 h => ?_)
    ·refine W.region <| WL.p rfl rfl rfl (.s 13 rfl .nil) (q_move rfl) <| WL.p rfl rfl rfl (.s 15 rfl .nil) (q_loadS rfl sh64 (leB rfl) rfl) <| WL.p rfl rfl rfl (.s 16 rfl .nil) (q_move rfl) <| WL.p rfl rfl rfl (.s 54 rfl (.s 55 rfl .nil)) (q_build (is := [0, 1]) (xs := [.tmp 54, .tmp 55]) (L := [SlcA kInt ((rd t4640.1 x40).fNodes), SlcA kInt ((rd t4640.1 x40).fEdges), SlcA kInt t4677.1]) rfl rfl z76 pl76 rfl rfl (.cons (CellsOf.agg _) (.cons (CellsOf.one rfl) .nil)) rfl) <| WL.p rfl rfl rfl (.s 56 rfl .nil) (q_lit (kd := kMatch) (ps := [(0, .tmp 56)]) (xs := [.tmp 56]) («as» := [AggA [SlcA kInt ((rd t4640.1 x40).fNodes), SlcA kInt ((rd t4640.1 x40).fEdges), SlcA kInt t4677.1]]) (ys := [(Match.mk (rd t4640.1 x40) t4677.1)]) rfl rfl el71 rfl gr76 rfl rfl rfl (.cons (CellsOf.agg _) .nil)) ?_
     obtain ⟨c4682, h⟩ := ite_n h
     refine WL.w [0] rfl (Wanted.plain rfl) rfl rfl (.s 53 rfl (.s 57 rfl .nil)) (w_append (kd := kMatch) rfl el71 rfl gr76 c4682) ?_
     rintro _ _ ⟨v4683, rfl, rfl⟩
     refine WL.p rfl rfl rfl (.s 58 rfl .nil) (q_assign rfl) <| WL.nil <| QN.block <| QN.weaken (env' := [(13, _), (40, _), (39, _), (38, _), (6, _), (5, _)]) (.one rfl (.one rfl (.one rfl (.one rfl (.one rfl (.one rfl (.nil _))))))) <| QN.then_ <| W.region ?_
     obtain ⟨c4684, h⟩ := ite_n h
     refine WL.p rfl rfl rfl (.s 40 rfl (.k .nil)) (q_addR rfl c4684) <| WL.p rfl rfl rfl (.s 59 rfl .nil) (q_move rfl) <| WL.nil ?_
     exact next0 v4683 (x13 ++ [(Match.mk (rd t4640.1 x40) t4677.1)]) (x40 + 1) _ h (.one rfl (.one rfl (.one rfl (.one rfl (.one rfl (.one rfl (.nil _)))))))
    ·refine W.skip <| QN.block <| QN.then_ <| W.region ?_
     obtain ⟨c4685, h⟩ := ite_n h
     refine WL.p rfl rfl rfl (.s 40 rfl (.k .nil)) (q_addR rfl c4685) <| WL.p rfl rfl rfl (.s 59 rfl .nil) (q_move rfl) <| WL.nil ?_
     exact next0 g0 x13 (x40 + 1) _ h (.one rfl (.one rfl (.one rfl (.one rfl (.one rfl (.one rfl (.nil _)))))))
   ·refine W.exit <| QX.then_ <| QX.then_ <| QX.here <| QN.then_ <| W.seq <| W.region <| WL.p rfl rfl rfl (.s 13 rfl .nil) (q_move rfl) <| WL.p rfl rfl rfl (.s 60 rfl .nil) (q_assign rfl) <| WL.p rfl rfl rfl (.k .nil) (q_assign rfl) <| WL.nil <| QN.weaken (env' := [(9, _), (8, _)]) (.one rfl (.one rfl (.nil _))) <| QN.then_ ?_
    refine W.ret ?_
    cases h
    exact QR.f2 rfl rfl (.t rfl) (.t rfl) (.tup (.cons (.slc 0 rfl) (.cons (.id _) .nil)))
end Go.Proofs.YtcgdfjpeboiioaaGreat
