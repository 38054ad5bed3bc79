/- The Go functions compute the pure ones. (Printed by gen.py.) -/
import Derived.Test.YtelpgjfojhcjcaaGreatC4
namespace Go.Proofs.YtelpgjfojhcjcaaGreat
open Go Go.Abs
attribute [local irreducible] Tryz.prog
theorem slices_Reverse_int.con (k : Nat) (w0 : Value) (a0 : (List Int)) (r : (List Int)) (h : slices_Reverse_int k a0 = some r) : Con Tryz.prog 145 [SlE 3 w0 kInt a0] [HdA w0] (fun O' A => O' = [SlE 3 w0 kInt r] ∧ A = TupA []) := by
 unfold slices_Reverse_int at h
 refine Con.of (N := 28) Tryz.func145 rfl rfl rfl fun w0_ fg_ => W.seq <| W.region <| WL.p rfl rfl rfl (.s 0 rfl .nil) (q_move rfl) <| WL.q (Wanted.plain rfl) rfl rfl (.s 4 rfl .nil) (q_lenO rfl elS26 (i := 0) rfl) ?_
 obtain ⟨c3641, h⟩ := ite_n h
 refine WL.p rfl rfl rfl (.s 5 rfl (.k .nil)) (q_subR rfl c3641) <| WL.p rfl rfl rfl (.k .nil) (q_assign rfl) <| WL.p rfl rfl rfl (.s 6 rfl .nil) (q_assign rfl) <| WL.nil <| QN.then_ <| W.block ?_
 refine W.loop3 (Γ := Unit) (fun (_ : Unit) (_ : (List Int)) (x2 : Int) (x3 : Int) => [(0, HdA w0), (2, EqA (.int .i64 x2)), (3, EqA (.int .i64 x3))]) (fun (_ : Unit) (x0 : (List Int)) (_ : Int) (_ : Int) => [SlE 3 w0 kInt x0]) h () (.one rfl (.one rfl (.one rfl (.nil _)))) rfl (fun rec0 K0 next0 _ x0 x2 x3 h => ?_)
 unfold slices_Reverse_int.b0 at h
 refine W.seq <| W.seq <| W.region <| WL.p rfl rfl rfl (.s 2 rfl .nil) (q_move rfl) <| WL.p rfl rfl rfl (.s 3 rfl .nil) (q_move rfl) <| WL.p rfl rfl rfl (.s 7 rfl (.s 8 rfl .nil)) (q_int rfl rfl) <| WL.nil <| QN.then_ ?_
 refine W.condP h rfl (fun hb3672 h => ?_) (fun hb3672 h => ?_)
 ·refine W.skip <| QN.then_ <| W.seq <| W.block <| W.drawK [(0, false), (1, false), (2, false), (3, false), (4, false), (5, false), (6, true), (7, true), (8, false), (9, false), (10, true), (11, true), (12, true)] [13, 14, 15] [[], [], [], [], [], [], [4, 5], [4, 5, 6], [], [], [8, 9], [8, 9, 10], [0, 1, 4, 5, 6, 7, 8, 9, 10, 11], [0, 1, 4, 5, 6, 7, 8, 9, 10, 11, 12], [0, 1, 2, 3, 4, 5, 6, 7, 8, 9, 10, 11, 12, 13], [0, 1, 2, 3, 4, 5, 6, 7, 8, 9, 10, 11, 12, 13, 14]] mx (by kernel_rfl) <| DK.cons rfl rfl (.p rfl (.s 0 rfl .nil) rfl (q_move rfl)) <| DK.cons rfl rfl (.p rfl (.s 2 rfl .nil) rfl (q_move rfl)) <| DK.cons rfl rfl (.p rfl (.s 0 rfl .nil) rfl (q_move rfl)) <| DK.cons rfl rfl (.p rfl (.s 3 rfl .nil) rfl (q_move rfl)) <| DK.cons rfl rfl (.p rfl (.s 0 rfl .nil) rfl (q_move rfl)) <| DK.cons rfl rfl (.p rfl (.s 3 rfl .nil) rfl (q_move rfl)) ?_
  obtain ⟨c3681, h⟩ := ite_n h
  refine DK.cons rfl rfl (.o rfl (.s 18 rfl (.s 19 rfl .nil)) rfl (q_indexO rfl el26 (j := 0) rfl c3681.1 c3681.2)) <| DK.cons rfl rfl (.o rfl (.s 20 rfl .nil) rfl (q_loadEl rfl sh3 (j := 0) rfl rfl c3681.1 c3681.2 rfl)) <| DK.cons rfl rfl (.p rfl (.s 0 rfl .nil) rfl (q_move rfl)) <| DK.cons rfl rfl (.p rfl (.s 2 rfl .nil) rfl (q_move rfl)) ?_
  obtain ⟨c3682, h⟩ := ite_n h
  refine DK.cons rfl rfl (.o rfl (.s 22 rfl (.s 23 rfl .nil)) rfl (q_indexO rfl el26 (j := 0) rfl c3682.1 c3682.2)) <| DK.cons rfl rfl (.o rfl (.s 24 rfl .nil) rfl (q_loadEl rfl sh3 (j := 0) rfl rfl c3682.1 c3682.2 rfl)) ?_
  obtain ⟨c3683, h⟩ := ite_n h
  refine DK.cons rfl rfl (.o rfl (.s 14 rfl (.s 15 rfl .nil)) rfl (q_indexO rfl el26 (j := 0) rfl c3683.1 c3683.2)) ?_
  obtain ⟨c3684, h⟩ := ite_n h
  refine DK.nil <| CSteps.w0 [0] rfl rfl rfl (.s 26 rfl (.s 21 rfl .nil)) rfl (w_storeEl (kd := kInt) (z := (rd x0 x3)) rfl sh3 (CellsOf.one rfl) rfl rfl rfl c3683.1 c3683.2 rfl rfl) ?_
  rintro _ _ ⟨rfl, rfl⟩
  refine CSteps.ro [0] rfl rfl rfl rfl (.s 16 rfl (.s 17 rfl .nil)) rfl (fun _ => (q_indexO rfl el26 (j := 0) rfl c3684.1 c3684.2)) <| CSteps.w0 [0] rfl rfl rfl (.s 27 rfl (.s 25 rfl .nil)) rfl (w_storeEl (kd := kInt) (z := (rd x0 x2)) rfl sh3 (CellsOf.one rfl) rfl rfl rfl c3684.1 c3684.2 rfl rfl) ?_
  rintro _ _ ⟨rfl, rfl⟩
  refine CSteps.nil <| QN.block <| QN.weaken (env' := [(3, _), (2, _), (0, _)]) (.one rfl (.one rfl (.one rfl (.nil _)))) <| QN.then_ <| W.region <| WL.p rfl rfl rfl (.s 2 rfl .nil) (q_move rfl) ?_
  obtain ⟨c3685, h⟩ := ite_n h
  refine WL.p rfl rfl rfl (.s 10 rfl (.k .nil)) (q_addR rfl c3685) <| WL.p rfl rfl rfl (.s 3 rfl .nil) (q_move rfl) ?_
  obtain ⟨c3686, h⟩ := ite_n h
  refine WL.p rfl rfl rfl (.s 12 rfl (.k .nil)) (q_subR rfl c3686) <| WL.p rfl rfl rfl (.s 11 rfl .nil) (q_assign rfl) <| WL.p rfl rfl rfl (.s 13 rfl .nil) (q_assign rfl) <| WL.nil ?_
  exact next0 () ((x0.set (x2 : Int).toNat (rd x0 x3)).set (x3 : Int).toNat (rd x0 x2)) (x2 + 1) (x3 - 1) _ h (.one rfl (.one rfl (.one rfl (.nil _))))
 ·refine W.exit <| QX.then_ <| QX.then_ <| QX.here ?_
  cases h
  exact QN.f0 rfl rfl ⟨rfl, rfl⟩
theorem types_line.con (k : Nat) (a0 : Types) (a1 : Int) (r : (List Int)) (h : types_line k a0 a1 = some r) : Con Tryz.prog 128 [] [AggA [SlcA kNodeType a0.fNodes, SlcA kEdgeType a0.fEdges], EqA (.int .i64 a1)] (RA (SlcA kInt r)) := by
 unfold types_line at h
 refine Con.of (N := 21) Tryz.func128 rfl rfl rfl fun w0_ fg_ => W.seq <| W.region <| WL.p rfl rfl rfl (.s 0 rfl .nil) (q_box rfl (CellsOf.agg _)) <| WL.p rfl rfl rfl (.k .nil) (q_assign rfl) <| WL.nil <| QN.then_ <| W.seq <| W.region <| WL.p rfl rfl rfl (.k .nil) (q_assign rfl) <| WL.nil <| QN.then_ <| W.seq ?_
 refine W.block <| W.to (StTo.newNil 3 kInt) <| W.to (StTo.as 5 rfl Imp.nilHd) ?_
 refine W.loop2 (Γ := Value) (fun (g0 : Value) (x1 : Int) (_ : (List Int)) => [(1, EqA (.int .i64 x1)), (2, PtrA [SlcA kNodeType a0.fNodes, SlcA kEdgeType a0.fEdges]), (5, HdA g0)]) (fun (g0 : Value) (_ : Int) (x5 : (List Int)) => [SlE 3 g0 kInt x5]) h (.slice none 0 0) (.one rfl (.one rfl (.one rfl (.nil _)))) rfl (fun rec0 K0 next0 g0 x1 x5 h => ?_)
 unfold types_line.b0 at h
 refine W.seq <| W.seq <| W.region <| WL.p rfl rfl rfl (.s 1 rfl .nil) (q_move rfl) <| WL.p rfl rfl rfl (.s 6 rfl (.k .nil)) (q_int rfl rfl) <| WL.nil <| QN.then_ ?_
 refine W.condP h rfl (fun hb3705 h => ?_) (fun hb3705 h => ?_)
 ·refine W.skip <| QN.then_ <| W.seq <| W.block <| W.region <| WL.p rfl rfl rfl (.s 5 rfl .nil) (q_move rfl) <| WL.p rfl rfl rfl (.s 1 rfl .nil) (q_move rfl) <| WL.p rfl rfl rfl (.s 15 rfl .nil) (q_lit (kd := kInt) (ps := [(0, .tmp 15)]) (xs := [.tmp 15]) («as» := [EqA (.int .i64 x1)]) (ys := [x1]) rfl rfl el26 rfl gr3 rfl rfl rfl (.cons (CellsOf.one rfl) .nil)) ?_
  obtain ⟨c3706, h⟩ := ite_n h
  refine WL.w [0] rfl (Wanted.plain rfl) rfl rfl (.s 14 rfl (.s 16 rfl .nil)) (w_append (kd := kInt) rfl el26 rfl gr3 c3706) ?_
  rintro _ _ ⟨v3707, rfl, rfl⟩
  refine WL.p rfl rfl rfl (.s 17 rfl .nil) (q_assign rfl) <| WL.nil <| QN.block <| QN.then_ <| W.region <| WL.p rfl rfl rfl (.s 2 rfl .nil) (q_field rfl fo25_0 rfl) <| WL.p rfl rfl rfl (.s 8 rfl .nil) (q_load rfl sh22) <| WL.p rfl rfl rfl (.s 1 rfl .nil) (q_move rfl) ?_
  obtain ⟨c3708, h⟩ := ite_n h
  refine WL.p rfl rfl rfl (.s 9 rfl (.s 10 rfl .nil)) (q_index rfl el22 rfl c3708.1 c3708.2) <| WL.p rfl rfl rfl (.s 11 rfl .nil) (q_field rfl fo94_1 rfl) <| WL.p rfl rfl rfl (.s 12 rfl .nil) (q_load rfl sh3) <| WL.p rfl rfl rfl (.s 13 rfl .nil) (q_assign rfl) <| WL.nil ?_
  exact next0 v3707 ((rd a0.fNodes x1).fParent) (x5 ++ [x1]) _ h (.one rfl (.one rfl (.one rfl (.nil _))))
 ·refine W.exit <| QX.then_ <| QX.then_ <| QX.here <| QN.then_ <| W.seq <| W.region <| WL.p rfl rfl rfl (.s 5 rfl .nil) (q_move rfl) ?_
  obtain ⟨t3709, ht3709, h⟩ := bind_s h
  refine WL.w [0] rfl (Wanted.plain rfl) rfl rfl (.s 18 rfl .nil) (w_callI (f := 145) (xs := [.tmp 18]) («as» := [HdA g0]) rfl ca145 (slices_Reverse_int.con k g0 x5 t3709 ht3709) rfl (.cons (Imp.id _) .nil)) ?_
  rintro _ _ ⟨rfl, rfl⟩
  refine WL.nil <| QN.then_ <| W.seq <| W.region <| WL.p rfl rfl rfl (.s 5 rfl .nil) (q_move rfl) <| WL.p rfl rfl rfl (.s 20 rfl .nil) (q_assign rfl) <| WL.nil <| QN.weaken (env' := [(4, _)]) (.one rfl (.nil _)) <| QN.then_ <| W.ret ?_
  cases h
  exact QR.f1 rfl rfl (.t rfl) (.slc 0 rfl)
theorem slices_Index_int.con (k : Nat) (a0 : (List Int)) (a1 : Int) (r : Int) (h : slices_Index_int k a0 a1 = some r) : Con Tryz.prog 115 [] [SlcA kInt a0, EqA (.int .i64 a1)] (RA (EqA (.int .i64 r))) := by
 unfold slices_Index_int at h
 refine Con.of (N := 19) Tryz.func115 rfl rfl rfl fun w0_ fg_ => W.seq <| W.region <| WL.p rfl rfl rfl (.k .nil) (q_assign rfl) <| WL.nil <| QN.then_ <| W.seq <| W.seq <| W.region <| WL.p rfl rfl rfl (.s 0 rfl .nil) (q_move rfl) <| WL.p rfl rfl rfl (.s 6 rfl .nil) (q_len rfl elS26) <| WL.p rfl rfl rfl (.k .nil) (q_move rfl) <| WL.nil ?_
 refine QN.then_ <| W.block ?_
 refine W.loop1 (Γ := Unit) (fun (_ : Unit) (x8 : Int) => [(0, SlcA kInt a0), (1, EqA (.int .i64 a1)), (7, EqA (.int .i64 (a0.length : Int))), (8, EqA (.int .i64 x8))]) (fun (_ : Unit) (_ : Int) => []) h () (.one rfl (.one rfl (.one rfl (.one rfl (.nil _))))) rfl (fun rec0 K0 next0 _ x8 h => ?_)
 unfold slices_Index_int.b0 at h
 refine W.seq <| W.region <| WL.p rfl rfl rfl (.s 8 rfl (.s 7 rfl .nil)) (q_int rfl rfl) <| WL.nil <| QN.then_ <| W.seq ?_
 refine W.condP h rfl (fun hb3718 h => ?_) (fun hb3718 h => ?_)
 ·refine W.skip <| QN.then_ <| W.seq <| W.block <| W.seq <| W.region <| WL.p rfl rfl rfl (.s 8 rfl .nil) (q_move rfl) <| WL.p rfl rfl rfl (.s 10 rfl .nil) (q_assign rfl) <| WL.nil <| QN.then_ <| W.seq <| W.region <| WL.p rfl rfl rfl (.s 1 rfl .nil) (q_move rfl) ?_
  refine WL.p rfl rfl rfl (.s 0 rfl .nil) (q_move rfl) <| WL.p rfl rfl rfl (.s 5 rfl .nil) (q_move rfl) ?_
  obtain ⟨c3719, h⟩ := ite_n h
  refine WL.p rfl rfl rfl (.s 12 rfl (.s 13 rfl .nil)) (q_index rfl el26 rfl c3719.1 c3719.2) <| WL.p rfl rfl rfl (.s 14 rfl .nil) (q_load rfl sh3) <| WL.p rfl rfl rfl (.s 11 rfl (.s 15 rfl .nil)) (q_int rfl rfl) <| WL.nil <| QN.weaken (env' := [(16, _), (5, _), (8, _), (7, _), (1, _), (0, _)]) (.one rfl (.one rfl (.one rfl (.one rfl (.one rfl (.one rfl (.nil _))))))) <| QN.then_ ?_
  refine W.condP h rfl (fun hb3720 h => ?_) (fun hb3720 h => ?_)
  ·refine W.seq <| W.region <| WL.p rfl rfl rfl (.s 5 rfl .nil) (q_move rfl) <| WL.p rfl rfl rfl (.s 17 rfl .nil) (q_assign rfl) <| WL.nil <| QN.weaken (env' := [(4, _)]) (.one rfl (.nil _)) <| QN.then_ <| W.ret <| QR.block <| QR.then_ <| QR.then_ <| QR.block <| QR.then_ ?_
   cases h
   exact QR.f1 rfl rfl (.t rfl) (.id _)
  ·refine W.skip <| QN.block <| QN.then_ <| W.region ?_
   obtain ⟨c3721, h⟩ := ite_n h
   refine WL.p rfl rfl rfl (.s 8 rfl (.k .nil)) (q_addR rfl c3721) <| WL.p rfl rfl rfl (.s 18 rfl .nil) (q_move rfl) <| WL.nil ?_
   exact next0 () (x8 + 1) _ h (.one rfl (.one rfl (.one rfl (.one rfl (.nil _)))))
 ·refine W.exit <| QX.then_ <| QX.then_ <| QX.here <| QN.then_ <| W.seq <| W.region <| WL.p rfl rfl rfl (.k .nil) (q_assign rfl) <| WL.nil <| QN.then_ <| W.ret ?_
  cases h
  exact QR.f1 rfl rfl (.t rfl) (.id _)
theorem slices_Contains_int.con (k : Nat) (a0 : (List Int)) (a1 : Int) (r : Bool) (h : slices_Contains_int k a0 a1 = some r) : Con Tryz.prog 87 [] [SlcA kInt a0, EqA (.int .i64 a1)] (RA (EqA (.bool r))) := by
 unfold slices_Contains_int at h
 refine Con.of (N := 9) Tryz.func87 rfl rfl rfl fun w0_ fg_ => W.seq <| W.region <| WL.p rfl rfl rfl (.k .nil) (q_assign rfl) <| WL.nil <| QN.then_ <| W.seq <| W.region <| WL.p rfl rfl rfl (.s 0 rfl .nil) (q_move rfl) <| WL.p rfl rfl rfl (.s 1 rfl .nil) (q_move rfl) ?_
 obtain ⟨t3722, ht3722, h⟩ := bind_s h
 refine WL.p rfl rfl rfl (.s 5 rfl (.s 6 rfl .nil)) (q_call (f := 115) (A := EqA (.int .i64 t3722)) (xs := [.tmp 5, .tmp 6]) («as» := [SlcA kInt a0, EqA (.int .i64 a1)]) rfl ca115 (slices_Index_int.con k a0 a1 t3722 ht3722) rfl) <| WL.p rfl rfl rfl (.s 7 rfl (.k .nil)) (q_int rfl rfl) <| WL.p rfl rfl rfl (.s 8 rfl .nil) (q_assign rfl) <| WL.nil <| QN.then_ <| W.ret ?_
 cases h
 exact QR.f1 rfl rfl (.t rfl) (.id _)
theorem types_is.con (k : Nat) (a0 : Types) (a1 : Int) (a2 : Int) (r : Bool) (h : types_is k a0 a1 a2 = some r) : Con Tryz.prog 114 [] [AggA [SlcA kNodeType a0.fNodes, SlcA kEdgeType a0.fEdges], EqA (.int .i64 a1), EqA (.int .i64 a2)] (RA (EqA (.bool r))) := by
 unfold types_is at h
 refine Con.of (N := 12) Tryz.func114 rfl rfl rfl fun w0_ fg_ => W.seq <| W.region <| WL.p rfl rfl rfl (.s 0 rfl .nil) (q_box rfl (CellsOf.agg _)) <| WL.p rfl rfl rfl (.k .nil) (q_assign rfl) <| WL.nil <| QN.then_ <| W.seq <| W.region <| WL.p rfl rfl rfl (.s 3 rfl .nil) (q_loadS rfl sh25 (leB rfl) rfl) <| WL.p rfl rfl rfl (.s 1 rfl .nil) (q_move rfl) ?_
 obtain ⟨t3723, ht3723, h⟩ := bind_s h
 refine WL.p rfl rfl rfl (.s 7 rfl (.s 8 rfl .nil)) (q_call (f := 128) (A := SlcA kInt t3723) (xs := [.tmp 7, .tmp 8]) («as» := [AggA [SlcA kNodeType a0.fNodes, SlcA kEdgeType a0.fEdges], EqA (.int .i64 a1)]) rfl ca128 (types_line.con k a0 a1 t3723 ht3723) rfl) <| WL.p rfl rfl rfl (.s 2 rfl .nil) (q_move rfl) ?_
 obtain ⟨t3724, ht3724, h⟩ := bind_s h
 refine WL.p rfl rfl rfl (.s 9 rfl (.s 10 rfl .nil)) (q_call (f := 87) (A := EqA (.bool t3724)) (xs := [.tmp 9, .tmp 10]) («as» := [SlcA kInt t3723, EqA (.int .i64 a2)]) rfl ca87 (slices_Contains_int.con k t3723 a2 t3724 ht3724) rfl) <| WL.p rfl rfl rfl (.s 11 rfl .nil) (q_assign rfl) <| WL.nil <| QN.weaken (env' := [(6, _)]) (.one rfl (.nil _)) <| QN.then_ <| W.ret ?_
 cases h
 exact QR.f1 rfl rfl (.t rfl) (.id _)
theorem types_Below.con (k : Nat) (a0 : Types) (a1 : Int) (r : ((List Int) × Int)) (h : types_Below k a0 a1 = some r) : Con Tryz.prog 85 [] [AggA [SlcA kNodeType a0.fNodes, SlcA kEdgeType a0.fEdges], EqA (.int .i64 a1)] (RA (TupA [SlcA kInt r.1, EqA (.int .i64 r.2)])) := by
 unfold types_Below at h
 refine Con.of (N := 32) Tryz.func85 rfl rfl rfl fun w0_ fg_ => W.seq <| W.region <| WL.p rfl rfl rfl (.s 0 rfl .nil) (q_box rfl (CellsOf.agg _)) <| WL.p rfl rfl rfl (.k .nil) (q_assign rfl) <| WL.p rfl rfl rfl (.k .nil) (q_assign rfl) <| WL.nil <| QN.then_ <| W.seq <| W.seq <| W.region <| WL.p rfl rfl rfl (.s 2 rfl .nil) (q_loadS rfl sh25 (leB rfl) rfl) <| WL.p rfl rfl rfl (.s 1 rfl .nil) (q_move rfl) ?_
 refine WL.p rfl rfl rfl (.s 10 rfl .nil) (q_lit (kd := kInt) (ps := [(0, .tmp 10)]) (xs := [.tmp 10]) («as» := [EqA (.int .i64 a1)]) (ys := [a1]) rfl rfl el26 rfl gr3 rfl rfl rfl (.cons (CellsOf.one rfl) .nil)) ?_
 obtain ⟨t3725, ht3725, h⟩ := bind_s h
 refine WL.p rfl rfl rfl (.s 9 rfl (.s 11 rfl .nil)) (q_call (f := 113) (A := EqA (.int .i64 t3725)) (xs := [.tmp 9, .tmp 11]) («as» := [AggA [SlcA kNodeType a0.fNodes, SlcA kEdgeType a0.fEdges], SlcA kInt [a1]]) rfl ca113 (types_given.con k a0 [a1] t3725 ht3725) rfl) <| WL.p rfl rfl rfl (.s 12 rfl .nil) (q_assign rfl) <| WL.nil <| QN.weaken (env' := [(6, _), (2, _), (1, _)]) (.one rfl (.one rfl (.one rfl (.nil _)))) <| QN.then_ <| W.seq <| W.region <| WL.p rfl rfl rfl (.s 6 rfl .nil) (q_move rfl) <| WL.p rfl rfl rfl (.s 13 rfl (.k .nil)) (q_int rfl rfl) <| WL.nil <| QN.then_ ?_
 refine W.condP h rfl (fun hb3726 h => ?_) (fun hb3726 h => ?_)
 ·refine W.seq <| W.region <| WL.p rfl rfl rfl (.s 6 rfl .nil) (q_move rfl) <| WL.p rfl rfl rfl (.k .nil) (q_assign rfl) <| WL.p rfl rfl rfl (.s 15 rfl .nil) (q_assign rfl) <| WL.nil <| QN.then_ <| W.ret <| QR.then_ ?_
  cases h
  exact QR.f2 rfl rfl (.t rfl) (.t rfl) (.imp (Imp.tup (.cons (Imp.nil kInt) (.cons (Imp.id _) .nil))))
 ·refine W.skip <| QN.then_ <| W.seq <| W.region <| WL.p rfl rfl rfl (.k .nil) (q_assign rfl) <| WL.nil <| QN.then_ <| W.seq <| W.seq <| W.region <| WL.p rfl rfl rfl (.s 2 rfl .nil) (q_field rfl fo25_0 rfl) <| WL.p rfl rfl rfl (.s 16 rfl .nil) (q_load rfl sh22) <| WL.p rfl rfl rfl (.s 17 rfl .nil) (q_len rfl elS22) ?_
  refine WL.p rfl rfl rfl (.k .nil) (q_move rfl) <| WL.nil <| QN.then_ <| W.block <| W.to (StTo.newNil 3 kInt) <| W.to (StTo.as 7 rfl Imp.nilHd) ?_
  refine W.loop2 (Γ := Value) (fun (g0 : Value) (_ : (List Int)) (x19 : Int) => [(1, EqA (.int .i64 a1)), (2, PtrA [SlcA kNodeType a0.fNodes, SlcA kEdgeType a0.fEdges]), (7, HdA g0), (18, EqA (.int .i64 (a0.fNodes.length : Int))), (19, EqA (.int .i64 x19))]) (fun (g0 : Value) (x7 : (List Int)) (_ : Int) => [SlE 3 g0 kInt x7]) h (.slice none 0 0) (.one rfl (.one rfl (.one rfl (.one rfl (.one rfl (.nil _)))))) rfl (fun rec0 K0 next0 g0 x7 x19 h => ?_)
  unfold types_Below.b0 at h
  refine W.seq <| W.region <| WL.p rfl rfl rfl (.s 19 rfl (.s 18 rfl .nil)) (q_int rfl rfl) <| WL.nil <| QN.then_ <| W.seq ?_
  refine W.condP h rfl (fun hb3755 h => ?_) (fun hb3755 h => ?_)
  ·refine W.skip <| QN.then_ <| W.seq <| W.block <| W.seq <| W.region <| WL.p rfl rfl rfl (.s 19 rfl .nil) (q_move rfl) <| WL.p rfl rfl rfl (.s 21 rfl .nil) (q_assign rfl) <| WL.nil <| QN.then_ <| W.seq <| W.region <| WL.p rfl rfl rfl (.s 2 rfl .nil) (q_loadS rfl sh25 (leB rfl) rfl) ?_
   refine WL.p rfl rfl rfl (.s 8 rfl .nil) (q_move rfl) <| WL.p rfl rfl rfl (.s 1 rfl .nil) (q_move rfl) ?_
   obtain ⟨t3756, ht3756, h⟩ := bind_s h
   refine WL.p rfl rfl rfl (.s 22 rfl (.s 23 rfl (.s 24 rfl .nil))) (q_call (f := 114) (A := EqA (.bool t3756)) (xs := [.tmp 22, .tmp 23, .tmp 24]) («as» := [AggA [SlcA kNodeType a0.fNodes, SlcA kEdgeType a0.fEdges], EqA (.int .i64 x19), EqA (.int .i64 a1)]) rfl ca114 (types_is.con k a0 x19 a1 t3756 ht3756) rfl) <| WL.nil <| QN.then_ ?_
   refine W.condP h rfl (fun hb3760 h => ?_) (fun hb3760 h => ?_)
   ·refine W.region <| WL.p rfl rfl rfl (.s 7 rfl .nil) (q_move rfl) <| WL.p rfl rfl rfl (.s 8 rfl .nil) (q_move rfl) <| WL.p rfl rfl rfl (.s 27 rfl .nil) (q_lit (kd := kInt) (ps := [(0, .tmp 27)]) (xs := [.tmp 27]) («as» := [EqA (.int .i64 x19)]) (ys := [x19]) rfl rfl el26 rfl gr3 rfl rfl rfl (.cons (CellsOf.one rfl) .nil)) ?_
    obtain ⟨c3761, h⟩ := ite_n h
    refine WL.w [0] rfl (Wanted.plain rfl) rfl rfl (.s 26 rfl (.s 28 rfl .nil)) (w_append (kd := kInt) rfl el26 rfl gr3 c3761) ?_
    rintro _ _ ⟨v3762, rfl, rfl⟩
    refine WL.p rfl rfl rfl (.s 29 rfl .nil) (q_assign rfl) <| WL.nil <| QN.block <| QN.weaken (env' := [(7, _), (19, _), (18, _), (2, _), (1, _)]) (.one rfl (.one rfl (.one rfl (.one rfl (.one rfl (.nil _)))))) <| QN.then_ <| W.region ?_
    obtain ⟨c3763, h⟩ := ite_n h
    refine WL.p rfl rfl rfl (.s 19 rfl (.k .nil)) (q_addR rfl c3763) <| WL.p rfl rfl rfl (.s 30 rfl .nil) (q_move rfl) <| WL.nil ?_
    exact next0 v3762 (x7 ++ [x19]) (x19 + 1) _ h (.one rfl (.one rfl (.one rfl (.one rfl (.one rfl (.nil _))))))
   ·refine W.skip <| QN.block <| QN.weaken (env' := [(19, _), (18, _), (7, _), (2, _), (1, _)]) (.one rfl (.one rfl (.one rfl (.one rfl (.one rfl (.nil _)))))) <| QN.then_ <| W.region ?_
    obtain ⟨c3764, h⟩ := ite_n h
    refine WL.p rfl rfl rfl (.s 19 rfl (.k .nil)) (q_addR rfl c3764) <| WL.p rfl rfl rfl (.s 30 rfl .nil) (q_move rfl) <| WL.nil ?_
    exact next0 g0 x7 (x19 + 1) _ h (.one rfl (.one rfl (.one rfl (.one rfl (.one rfl (.nil _))))))
  ·refine W.exit <| QX.then_ <| QX.then_ <| QX.here <| QN.then_ <| W.seq <| W.region <| WL.p rfl rfl rfl (.s 7 rfl .nil) (q_move rfl) <| WL.p rfl rfl rfl (.s 31 rfl .nil) (q_assign rfl) <| WL.p rfl rfl rfl (.k .nil) (q_assign rfl) <| WL.nil <| QN.weaken (env' := [(5, _), (4, _)]) (.one rfl (.one rfl (.nil _))) <| QN.then_ ?_
   refine W.ret ?_
   cases h
   exact QR.f2 rfl rfl (.t rfl) (.t rfl) (.tup (.cons (.slc 0 rfl) (.cons (.id _) .nil)))
theorem search_below.con (k : Nat) (a0 : Types) (r : (List (List Bool))) (h : search_below k a0 = some r) : Con Tryz.prog 60 [] [AggA [SlcA kNodeType a0.fNodes, SlcA kEdgeType a0.fEdges]] (RA (SlcA (kSl kBool) r)) := by
 unfold search_below at h
 refine Con.of (N := 42) Tryz.func60 rfl rfl rfl fun w0_ fg_ => W.seq <| W.region <| WL.p rfl rfl rfl (.s 0 rfl .nil) (q_box rfl (CellsOf.agg _)) <| WL.p rfl rfl rfl (.k .nil) (q_assign rfl) <| WL.nil <| QN.then_ <| W.seq <| W.region <| WL.p rfl rfl rfl (.k .nil) (q_assign rfl) <| WL.nil <| QN.then_ <| W.seq ?_
 refine W.seq <| W.region <| WL.p rfl rfl rfl (.s 1 rfl .nil) (q_field rfl fo25_0 rfl) <| WL.p rfl rfl rfl (.s 10 rfl .nil) (q_load rfl sh22) <| WL.p rfl rfl rfl (.s 11 rfl .nil) (q_len rfl elS22) <| WL.p rfl rfl rfl (.k .nil) (q_move rfl) <| WL.nil <| QN.then_ <| W.block <| W.to (StTo.newNil 103 (kSl kBool)) <| W.to (StTo.as 3 rfl Imp.nilHd) ?_
 refine W.loop2 (Γ := Value) (fun (g0 : Value) (_ : (List (List Bool))) (x13 : Int) => [(1, PtrA [SlcA kNodeType a0.fNodes, SlcA kEdgeType a0.fEdges]), (3, HdA g0), (12, EqA (.int .i64 (a0.fNodes.length : Int))), (13, EqA (.int .i64 x13))]) (fun (g0 : Value) (x3 : (List (List Bool))) (_ : Int) => [SlE 103 g0 (kSl kBool) x3]) h (.slice none 0 0) (.one rfl (.one rfl (.one rfl (.one rfl (.nil _))))) rfl (fun rec0 K0 next0 g0 x3 x13 h => ?_)
 unfold search_below.b0 at h
 refine W.seq <| W.region <| WL.p rfl rfl rfl (.s 13 rfl (.s 12 rfl .nil)) (q_int rfl rfl) <| WL.nil <| QN.then_ <| W.seq ?_
 refine W.condP h rfl (fun hb3822 h => ?_) (fun hb3822 h => ?_)
 ·refine W.skip <| QN.then_ <| W.seq <| W.block <| W.seq <| W.region <| WL.p rfl rfl rfl (.s 13 rfl .nil) (q_move rfl) <| WL.p rfl rfl rfl (.s 15 rfl .nil) (q_assign rfl) <| WL.nil <| QN.then_ <| W.seq <| W.region <| WL.p rfl rfl rfl (.s 1 rfl .nil) (q_field rfl fo25_0 rfl) ?_
  refine WL.p rfl rfl rfl (.s 16 rfl .nil) (q_load rfl sh22) <| WL.p rfl rfl rfl (.s 17 rfl .nil) (q_len rfl elS22) ?_
  obtain ⟨c3823, h⟩ := ite_n h
  refine WL.w [] rfl (Wanted.plain rfl) rfl rfl (.s 18 rfl (.s 18 rfl .nil)) (w_make (kd := kBool) (z := false) rfl el103 rfl gr4 z4 rfl c3823.1 c3823.2) ?_
  rintro _ _ ⟨v3824, rfl, rfl⟩
  refine WL.p rfl rfl rfl (.s 19 rfl .nil) (q_assign rfl) <| WL.nil <| QN.then_ <| W.seq <| W.region <| WL.p rfl rfl rfl (.s 1 rfl .nil) (q_loadS rfl sh25 (leB rfl) rfl) <| WL.p rfl rfl rfl (.s 4 rfl .nil) (q_move rfl) ?_
  obtain ⟨t3825, ht3825, h⟩ := bind_s h
  refine WL.p rfl rfl rfl (.s 21 rfl (.s 22 rfl .nil)) (q_call (f := 85) (A := TupA [SlcA kInt t3825.1, EqA (.int .i64 t3825.2)]) (xs := [.tmp 21, .tmp 22]) («as» := [AggA [SlcA kNodeType a0.fNodes, SlcA kEdgeType a0.fEdges], EqA (.int .i64 x13)]) rfl ca85 (types_Below.con k a0 x13 t3825 ht3825) rfl) <| WL.p rfl rfl rfl (.s 23 rfl .nil) (q_move rfl) <| WL.p rfl rfl rfl (.s 20 rfl .nil) (q_extract rfl rfl) <| WL.p rfl rfl rfl (.s 20 rfl .nil) (q_extract rfl rfl) <| WL.p rfl rfl rfl (.s 24 rfl .nil) (q_assign rfl) <| WL.p rfl rfl rfl (.s 25 rfl .nil) (q_assign rfl) <| WL.nil <| QN.weaken (env' := [(6, _), (5, _), (13, _), (12, _), (3, _), (1, _)]) (.one rfl (.one rfl (.one rfl (.one rfl (.one rfl (.one rfl (.nil _))))))) <| QN.then_ <| W.seq <| W.seq <| W.region <| WL.p rfl rfl rfl (.s 6 rfl .nil) (q_move rfl) ?_
  refine WL.p rfl rfl rfl (.s 26 rfl .nil) (q_len rfl elS26) <| WL.p rfl rfl rfl (.k .nil) (q_move rfl) <| WL.nil <| QN.then_ <| W.block <| W.order [1, 0] rfl ?_
  refine W.loop2 (Γ := Unit) (fun (_ : Unit) (_ : (List Bool)) (x28 : Int) => [(1, PtrA [SlcA kNodeType a0.fNodes, SlcA kEdgeType a0.fEdges]), (3, HdA g0), (12, EqA (.int .i64 (a0.fNodes.length : Int))), (13, EqA (.int .i64 x13)), (5, HdA v3824), (26, SlcA kInt t3825.1), (27, EqA (.int .i64 (t3825.1.length : Int))), (28, EqA (.int .i64 x28))]) (fun (_ : Unit) (x5 : (List Bool)) (_ : Int) => [SlE 103 g0 (kSl kBool) x3, SlE 4 v3824 kBool x5]) h () (.one rfl (.one rfl (.one rfl (.one rfl (.one rfl (.one rfl (.one rfl (.one rfl (.nil _))))))))) rfl (fun rec1 K1 next1 _ x5 x28 h => ?_)
  unfold search_below.b1 at h
  refine W.seq <| W.region <| WL.p rfl rfl rfl (.s 28 rfl (.s 27 rfl .nil)) (q_int rfl rfl) <| WL.nil <| QN.then_ <| W.seq ?_
  refine W.condP h rfl (fun hb3840 h => ?_) (fun hb3840 h => ?_)
  ·refine W.skip <| QN.then_ <| W.seq <| W.block <| W.seq <| W.region ?_
   obtain ⟨c3841, h⟩ := ite_n h
   refine WL.p rfl rfl rfl (.s 26 rfl (.s 28 rfl .nil)) (q_index rfl el26 rfl c3841.1 c3841.2) <| WL.p rfl rfl rfl (.s 30 rfl .nil) (q_load rfl sh3) <| WL.p rfl rfl rfl (.s 31 rfl .nil) (q_assign rfl) <| WL.nil <| QN.then_ <| W.region <| WL.p rfl rfl rfl (.s 5 rfl .nil) (q_move rfl) <| WL.p rfl rfl rfl (.s 9 rfl .nil) (q_move rfl) ?_
   obtain ⟨c3842, h⟩ := ite_n h
   refine WL.q (Wanted.plain rfl) rfl rfl (.s 32 rfl (.s 33 rfl .nil)) (q_indexO rfl el103 (j := 1) rfl c3842.1 c3842.2) <| WL.w0 [1] rfl (Wanted.plain rfl) rfl (.s 34 rfl (.k .nil)) (w_storeEl (kd := kBool) (z := true) rfl sh4 (CellsOf.one rfl) rfl rfl rfl c3842.1 c3842.2 rfl rfl) ?_
   rintro _ _ ⟨rfl, rfl⟩
   refine WL.nil <| QN.block <| QN.weaken (env' := [(28, _), (27, _), (26, _), (5, _), (13, _), (12, _), (3, _), (1, _)]) (.one rfl (.one rfl (.one rfl (.one rfl (.one rfl (.one rfl (.one rfl (.one rfl (.nil _))))))))) <| QN.then_ <| W.region ?_
   obtain ⟨c3843, h⟩ := ite_n h
   refine WL.p rfl rfl rfl (.s 28 rfl (.k .nil)) (q_addR rfl c3843) <| WL.p rfl rfl rfl (.s 35 rfl .nil) (q_move rfl) <| WL.nil <| QN.order [1, 0] rfl ?_
   exact next1 () (x5.set ((rd t3825.1 x28) : Int).toNat true) (x28 + 1) _ h (.one rfl (.one rfl (.one rfl (.one rfl (.one rfl (.one rfl (.one rfl (.one rfl (.nil _)))))))))
  ·refine W.exit <| QX.then_ <| QX.then_ <| QX.here <| QN.then_ <| W.region <| WL.p rfl rfl rfl (.s 3 rfl .nil) (q_move rfl) <| WL.p rfl rfl rfl (.s 5 rfl .nil) (q_move rfl) <| WL.to (StTo.freeze [1] 37 rfl rfl) <| WL.p rfl rfl rfl (.s 37 rfl .nil) (q_lit (kd := (kSl kBool)) (ps := [(0, .tmp 37)]) (xs := [.tmp 37]) («as» := [SlcA kBool x5]) (ys := [x5]) rfl rfl el101 rfl gr103 rfl rfl rfl (.cons (CellsOf.one rfl) .nil)) ?_
   obtain ⟨c3844, h⟩ := ite_n h
   refine WL.w [0] rfl (Wanted.plain rfl) rfl rfl (.s 36 rfl (.s 38 rfl .nil)) (w_append (kd := (kSl kBool)) rfl el101 rfl gr103 c3844) ?_
   rintro _ _ ⟨v3845, rfl, rfl⟩
   refine WL.p rfl rfl rfl (.s 39 rfl .nil) (q_assign rfl) <| WL.nil <| QN.block <| QN.weaken (env' := [(3, _), (13, _), (12, _), (1, _)]) (.one rfl (.one rfl (.one rfl (.one rfl (.nil _))))) <| QN.then_ <| W.region ?_
   obtain ⟨c3846, h⟩ := ite_n h
   refine WL.p rfl rfl rfl (.s 13 rfl (.k .nil)) (q_addR rfl c3846) <| WL.p rfl rfl rfl (.s 40 rfl .nil) (q_move rfl) <| WL.nil ?_
   exact next0 v3845 (x3 ++ [x5]) (x13 + 1) _ h (.one rfl (.one rfl (.one rfl (.one rfl (.nil _)))))
 ·refine W.exit <| QX.then_ <| QX.then_ <| QX.here <| QN.then_ <| W.seq <| W.region <| WL.p rfl rfl rfl (.s 3 rfl .nil) (q_move rfl) <| WL.p rfl rfl rfl (.s 41 rfl .nil) (q_assign rfl) <| WL.nil <| QN.then_ <| W.ret ?_
  cases h
  exact QR.f1 rfl rfl (.t rfl) (.slc 0 rfl)
theorem search_given.con (k : Nat) (a0 : (Option (List Int))) (a1 : Int) (r : Int) (h : search_given k a0 a1 = some r) : Con Tryz.prog 86 [] [OptA kInt a0, EqA (.int .i64 a1)] (RA (EqA (.int .i64 r))) := by
  cases a0 with
  | none =>
    have hr : -1 = r := some_s h
    subst hr
    refine Con.of (N := 11) Tryz.func86 rfl rfl rfl fun w0_ fg_ => ?_
    refine W.seq (W.region (WL.p rfl rfl rfl (.k .nil) (q_assign rfl) (WL.nil (QN.then_ ?_))))
    refine W.seq (W.seq (W.region (WL.p rfl rfl rfl (.s 0 rfl .nil) (q_move rfl) (WL.p rfl rfl rfl (.s 5 rfl .nil) (QS.need (q_nilNil rfl elS26) (Imp.ofN kInt)) (WL.nil (QN.then_ ?_))))))
    refine W.condT rfl rfl ?_
    refine W.seq (W.region (WL.p rfl rfl rfl (.k .nil) (q_assign rfl) (WL.nil (QN.then_ ?_))))
    exact W.ret (QR.then_ (QR.f1 rfl rfl (.t rfl) (.id _)))
  | some l =>
    obtain ⟨hc, h⟩ := ite_n h
    cases h
    refine Con.of (N := 11) Tryz.func86 rfl rfl rfl fun w0_ fg_ => ?_
    refine W.seq (W.region (WL.p rfl rfl rfl (.k .nil) (q_assign rfl) (WL.nil (QN.then_ ?_))))
    refine W.seq (W.seq (W.region (WL.p rfl rfl rfl (.s 0 rfl .nil) (q_move rfl) (WL.p rfl rfl rfl (.s 5 rfl .nil) (QS.need (q_nilEq (kd := kInt) (xs := l) rfl elS26 (by rintro rfl; simp at hc; omega) rfl) (Imp.ofS kInt l)) (WL.nil (QN.then_ ?_))))))
    refine W.condF rfl rfl (W.skip (QN.then_ ?_))
    refine W.seq (W.region ?_)
    refine WL.p rfl rfl rfl (.s 0 rfl .nil) (q_move rfl) ?_
    refine WL.p rfl rfl rfl (.s 1 rfl .nil) (q_move rfl) ?_
    refine WL.p rfl rfl rfl (.s 7 rfl (.s 8 rfl .nil)) (QS.need (q_index (kd := kInt) (xs := l) rfl el26 rfl hc.1 hc.2) (Imp.ofS kInt l)) ?_
    refine WL.p rfl rfl rfl (.s 9 rfl .nil) (q_load rfl sh3) ?_
    refine WL.p rfl rfl rfl (.s 10 rfl .nil) (q_assign rfl) ?_
    refine WL.nil (QN.then_ ?_)
    exact W.ret (QR.f1 rfl rfl (.t rfl) (.id _))
theorem search_finder_fits.con (k : Nat) (a0 : Finder) (a1 : Int) (a2 : Int) (r : Bool) (h : search_finder_fits k a0 a1 a2 = some r) : Con Tryz.prog 89 [] [PtrA [SlcA kInt a0.fp.fNodes, SlcA kEdge a0.fp.fEdges, SlcA kInt a0.fg.fNodes, SlcA kEdge a0.fg.fEdges, SlcA (kSl kBool) a0.fis, OptA kInt a0.fpartial.fNodes, OptA kInt a0.fpartial.fEdges, EqA (.bool a0.finjective), EqA (.int .i64 a0.fmost), SlcA kInt a0.fnodes, SlcA kInt a0.fedges, SlcA kMorphism a0.fout], EqA (.int .i64 a1), EqA (.int .i64 a2)] (RA (EqA (.bool r))) := by
 unfold search_finder_fits at h
 refine Con.of (N := 59) Tryz.func89 rfl rfl rfl fun w0_ fg_ => W.seq <| W.region <| WL.p rfl rfl rfl (.k .nil) (q_assign rfl) <| WL.nil <| QN.then_ <| W.seq <| W.region <| WL.p rfl rfl rfl (.s 0 rfl .nil) (q_move rfl) <| WL.p rfl rfl rfl (.s 9 rfl .nil) (q_nilCheck rfl) <| WL.p rfl rfl rfl (.s 10 rfl .nil) (q_field rfl fo108_0 rfl) <| WL.p rfl rfl rfl (.s 11 rfl .nil) (q_field rfl fo29_1 rfl) <| WL.p rfl rfl rfl (.s 12 rfl .nil) (q_load rfl sh27) ?_
 refine WL.p rfl rfl rfl (.s 1 rfl .nil) (q_move rfl) ?_
 obtain ⟨c3847, h⟩ := ite_n h
 refine WL.p rfl rfl rfl (.s 13 rfl (.s 14 rfl .nil)) (q_index rfl el27 rfl c3847.1 c3847.2) <| WL.p rfl rfl rfl (.s 15 rfl .nil) (q_loadS rfl sh77 (leB rfl) rfl) <| WL.w [] rfl (Wanted.plain rfl) rfl rfl .nil (w_alloc rfl z77 (l := [EqA (.int .i64 0), EqA (.int .i64 0), EqA (.int .i64 0)]) rfl) ?_
 rintro _ _ ⟨b3848, rfl, rfl⟩
 refine WL.w0 [0] rfl (Wanted.plain rfl) rfl (.s 7 rfl (.s 16 rfl .nil)) (w_store (L := [EqA (.int .i64 ((rd a0.fp.fEdges a1).fType)), EqA (.int .i64 ((rd a0.fp.fEdges a1).fFrom)), EqA (.int .i64 ((rd a0.fp.fEdges a1).fTo))]) rfl sh77 (CellsOf.agg _) rfl rfl (leB rfl) rfl) ?_
 rintro _ _ ⟨rfl, rfl⟩
 refine WL.nil <| QN.to (StTo.still [0] 7 rfl rfl) <| QN.weaken (env' := [(7, _), (2, _), (1, _), (0, _)]) (.one rfl (.one rfl (.one rfl (.one rfl (.nil _))))) <| QN.then_ <| W.seq <| W.seq <| W.region <| WL.p rfl rfl rfl (.s 0 rfl .nil) (q_move rfl) <| WL.p rfl rfl rfl (.s 17 rfl .nil) (q_nilCheck rfl) <| WL.p rfl rfl rfl (.s 18 rfl .nil) (q_field rfl fo108_3 rfl) <| WL.p rfl rfl rfl (.s 19 rfl .nil) (q_field rfl fo33_1 rfl) <| WL.p rfl rfl rfl (.s 20 rfl .nil) (q_load rfl sh26) <| WL.p rfl rfl rfl (.s 1 rfl .nil) (q_move rfl) ?_
 obtain ⟨t3849, ht3849, h⟩ := bind_s h
 refine WL.p rfl rfl rfl (.s 21 rfl (.s 22 rfl .nil)) (q_call (f := 86) (A := EqA (.int .i64 t3849)) (xs := [.tmp 21, .tmp 22]) («as» := [OptA kInt a0.fpartial.fEdges, EqA (.int .i64 a1)]) rfl ca86 (search_given.con k a0.fpartial.fEdges a1 t3849 ht3849) rfl) <| WL.p rfl rfl rfl (.s 23 rfl .nil) (q_assign rfl) <| WL.nil <| QN.weaken (env' := [(8, _), (7, _), (2, _), (0, _)]) (.one rfl (.one rfl (.one rfl (.one rfl (.nil _))))) <| QN.then_ <| W.seq ?_
 refine W.jn1 (Γ := Unit) (fun (_ : Unit) (x30 : Bool) => [(0, PtrA [SlcA kInt a0.fp.fNodes, SlcA kEdge a0.fp.fEdges, SlcA kInt a0.fg.fNodes, SlcA kEdge a0.fg.fEdges, SlcA (kSl kBool) a0.fis, OptA kInt a0.fpartial.fNodes, OptA kInt a0.fpartial.fEdges, EqA (.bool a0.finjective), EqA (.int .i64 a0.fmost), SlcA kInt a0.fnodes, SlcA kInt a0.fedges, SlcA kMorphism a0.fout]), (2, EqA (.int .i64 a2)), (7, PtrA [EqA (.int .i64 ((rd a0.fp.fEdges a1).fType)), EqA (.int .i64 ((rd a0.fp.fEdges a1).fFrom)), EqA (.int .i64 ((rd a0.fp.fEdges a1).fTo))]), (30, EqA (.bool x30))]) (fun (_ : Unit) (_ : Bool) => []) h (fun _ x30 h => ?_) (fun j3852 Kj3852 h => ?_)
 ·refine QN.then_ ?_
  refine W.condP h rfl (fun hb3853 h => ?_) (fun hb3853 h => ?_)
  ·refine W.seq <| W.region <| WL.p rfl rfl rfl (.k .nil) (q_assign rfl) <| WL.nil <| QN.then_ <| W.ret <| QR.then_ ?_
   cases h
   exact QR.f1 rfl rfl (.t rfl) (.id _)
  ·refine W.skip <| QN.then_ <| W.seq <| W.drawK [(0, false), (1, false), (2, false), (3, false), (4, false), (5, false), (6, false), (7, false), (8, false), (9, false), (10, false), (11, false), (12, false), (13, false), (14, false), (15, false), (16, false), (17, false), (18, false), (19, false), (20, false), (21, false), (22, false), (23, false), (24, false), (25, false), (26, false), (27, false), (28, false)] [] [[], [0], [0, 1], [0, 1, 2], [0, 1, 2, 3], [], [0, 1, 2, 3, 4, 5], [0, 1, 2, 3, 4, 5, 6], [], [8], [], [10], [10, 11], [10, 11, 12], [], [14], [10, 11, 12, 13, 14, 15], [10, 11, 12, 13, 14, 15, 16], [], [18], [18, 19], [18, 19, 20], [], [22], [18, 19, 20, 21, 22, 23], [18, 19, 20, 21, 22, 23, 24], [8, 9, 10, 11, 12, 13, 14, 15, 16, 17, 18, 19, 20, 21, 22, 23, 24, 25], [0, 1, 2, 3, 4, 5, 6, 7, 8, 9, 10, 11, 12, 13, 14, 15, 16, 17, 18, 19, 20, 21, 22, 23, 24, 25, 26], [0, 1, 2, 3, 4, 5, 6, 7, 8, 9, 10, 11, 12, 13, 14, 15, 16, 17, 18, 19, 20, 21, 22, 23, 24, 25, 26, 27]] mx (by kernel_rfl) <| DK.cons rfl rfl (.p rfl (.s 0 rfl .nil) rfl (q_move rfl)) <| DK.cons rfl rfl (.p rfl (.s 31 rfl .nil) rfl (q_nilCheck rfl)) <| DK.cons rfl rfl (.p rfl (.s 32 rfl .nil) rfl (q_field rfl fo108_1 rfl)) <| DK.cons rfl rfl (.p rfl (.s 33 rfl .nil) rfl (q_field rfl fo29_1 rfl)) <| DK.cons rfl rfl (.p rfl (.s 34 rfl .nil) rfl (q_load rfl sh27)) <| DK.cons rfl rfl (.p rfl (.s 2 rfl .nil) rfl (q_move rfl)) ?_
   obtain ⟨c3860, h⟩ := ite_n h
   refine DK.cons rfl rfl (.p rfl (.s 35 rfl (.s 36 rfl .nil)) rfl (q_index rfl el27 rfl c3860.1 c3860.2)) <| DK.cons rfl rfl (.p rfl (.s 37 rfl .nil) rfl (q_loadS rfl sh77 (leB rfl) rfl)) <| DK.cons rfl rfl (.p rfl (.s 7 rfl .nil) rfl (q_field rfl fo77_0 rfl)) <| DK.cons rfl rfl (.p rfl (.s 39 rfl .nil) rfl (q_load rfl sh3)) <| DK.cons rfl rfl (.p rfl (.s 0 rfl .nil) rfl (q_move rfl)) <| DK.cons rfl rfl (.p rfl (.s 41 rfl .nil) rfl (q_nilCheck rfl)) <| DK.cons rfl rfl (.p rfl (.s 42 rfl .nil) rfl (q_field rfl fo108_6 rfl)) <| DK.cons rfl rfl (.p rfl (.s 43 rfl .nil) rfl (q_load rfl sh26)) <| DK.cons rfl rfl (.p rfl (.s 7 rfl .nil) rfl (q_field rfl fo77_1 rfl)) <| DK.cons rfl rfl (.p rfl (.s 45 rfl .nil) rfl (q_load rfl sh3)) ?_
   obtain ⟨c3861, h⟩ := ite_n h
   refine DK.cons rfl rfl (.p rfl (.s 44 rfl (.s 46 rfl .nil)) rfl (q_index rfl el26 rfl c3861.1 c3861.2)) <| DK.cons rfl rfl (.p rfl (.s 47 rfl .nil) rfl (q_load rfl sh3)) <| DK.cons rfl rfl (.p rfl (.s 0 rfl .nil) rfl (q_move rfl)) <| DK.cons rfl rfl (.p rfl (.s 49 rfl .nil) rfl (q_nilCheck rfl)) <| DK.cons rfl rfl (.p rfl (.s 50 rfl .nil) rfl (q_field rfl fo108_6 rfl)) <| DK.cons rfl rfl (.p rfl (.s 51 rfl .nil) rfl (q_load rfl sh26)) <| DK.cons rfl rfl (.p rfl (.s 7 rfl .nil) rfl (q_field rfl fo77_2 rfl)) <| DK.cons rfl rfl (.p rfl (.s 53 rfl .nil) rfl (q_load rfl sh3)) ?_
   obtain ⟨c3862, h⟩ := ite_n h
   refine DK.cons rfl rfl (.p rfl (.s 52 rfl (.s 54 rfl .nil)) rfl (q_index rfl el26 rfl c3862.1 c3862.2)) <| DK.cons rfl rfl (.p rfl (.s 55 rfl .nil) rfl (q_load rfl sh3)) <| DK.cons rfl rfl (.p rfl (.s 40 rfl (.s 48 rfl (.s 56 rfl .nil))) rfl (q_build (is := [0, 1, 2]) (xs := [.tmp 40, .tmp 48, .tmp 56]) (L := [EqA (.int .i64 ((rd a0.fp.fEdges a1).fType)), EqA (.int .i64 (rd a0.fnodes ((rd a0.fp.fEdges a1).fFrom))), EqA (.int .i64 (rd a0.fnodes ((rd a0.fp.fEdges a1).fTo)))]) rfl rfl z77 pl77 rfl rfl (.cons (CellsOf.one rfl) (.cons (CellsOf.one rfl) (.cons (CellsOf.one rfl) .nil))) rfl)) <| DK.cons rfl rfl (.p rfl (.s 38 rfl (.s 57 rfl .nil)) rfl (q_eqI (ms := [(rd a0.fg.fEdges a2).fType, (rd a0.fg.fEdges a2).fFrom, (rd a0.fg.fEdges a2).fTo]) (ns := [(rd a0.fp.fEdges a1).fType, (rd a0.fnodes ((rd a0.fp.fEdges a1).fFrom)), (rd a0.fnodes ((rd a0.fp.fEdges a1).fTo))]) rfl issI_77)) <| DK.cons rfl rfl (.p rfl (.s 58 rfl .nil) rfl (q_assign rfl)) <| DK.nil <| CSteps.nil <| QN.weaken (env' := [(6, _)]) (.one rfl (.nil _)) <| QN.then_ <| W.ret ?_
   cases h
   exact QR.f1 rfl rfl (.t rfl) (.id _)
 ·refine W.region <| WL.p rfl rfl rfl (.s 8 rfl .nil) (q_move rfl) <| WL.p rfl rfl rfl (.s 24 rfl (.k .nil)) (q_int rfl rfl) <| WL.p rfl rfl rfl (.s 25 rfl .nil) (q_move rfl) ?_
  rcases bif_s h with ⟨hb3863, h⟩ | ⟨hb3863, h⟩
  ·refine WL.q (Wanted.on rfl rfl rfl hb3863) rfl rfl (.s 8 rfl .nil) (q_move rfl).o <| WL.q (Wanted.on rfl rfl rfl hb3863) rfl rfl (.s 2 rfl .nil) (q_move rfl).o <| WL.q (Wanted.on rfl rfl rfl hb3863) rfl rfl (.s 27 rfl (.s 28 rfl .nil)) (q_int rfl rfl).o <| WL.p rfl rfl rfl (.s 26 rfl (.s 29 rfl .nil)) (q_pickT rfl hb3863) <| WL.nil ?_
   exact QN.weaken (.one rfl (.one rfl (.one rfl (.one rfl (.nil _))))) (Kj3852 () (t3849 != a2) h)
  ·refine WL.skip (Unwanted.on rfl rfl rfl hb3863) rfl rfl <| WL.skip (Unwanted.on rfl rfl rfl hb3863) rfl rfl <| WL.skip (Unwanted.on rfl rfl rfl hb3863) rfl rfl <| WL.p rfl rfl rfl (.s 26 rfl (.k .nil)) (q_pickF rfl hb3863) <| WL.nil ?_
   exact QN.weaken (.one rfl (.one rfl (.one rfl (.one rfl (.nil _))))) (Kj3852 () false h)
theorem search_finder_possible.con (k : Nat) (a0 : Finder) (r : Bool) (h : search_finder_possible k a0 = some r) : Con Tryz.prog 88 [] [PtrA [SlcA kInt a0.fp.fNodes, SlcA kEdge a0.fp.fEdges, SlcA kInt a0.fg.fNodes, SlcA kEdge a0.fg.fEdges, SlcA (kSl kBool) a0.fis, OptA kInt a0.fpartial.fNodes, OptA kInt a0.fpartial.fEdges, EqA (.bool a0.finjective), EqA (.int .i64 a0.fmost), SlcA kInt a0.fnodes, SlcA kInt a0.fedges, SlcA kMorphism a0.fout]] (RA (EqA (.bool r))) := by
 unfold search_finder_possible at h
 refine Con.of (N := 49) Tryz.func88 rfl rfl rfl fun w0_ fg_ => W.seq <| W.region <| WL.p rfl rfl rfl (.k .nil) (q_assign rfl) <| WL.nil <| QN.then_ <| W.seq <| W.region <| WL.p rfl rfl rfl (.s 0 rfl .nil) (q_move rfl) <| WL.p rfl rfl rfl (.s 8 rfl .nil) (q_nilCheck rfl) <| WL.p rfl rfl rfl (.s 9 rfl .nil) (q_field rfl fo108_6 rfl) <| WL.p rfl rfl rfl (.s 10 rfl .nil) (q_load rfl sh26) <| WL.p rfl rfl rfl (.s 11 rfl .nil) (q_len rfl elS26) ?_
 obtain ⟨c3864, h⟩ := ite_n h
 refine WL.p rfl rfl rfl (.s 12 rfl (.k .nil)) (q_subR rfl c3864) <| WL.p rfl rfl rfl (.s 13 rfl .nil) (q_assign rfl) <| WL.nil <| QN.weaken (env' := [(3, _), (0, _)]) (.one rfl (.one rfl (.nil _))) <| QN.then_ <| W.seq <| W.seq <| W.region <| WL.p rfl rfl rfl (.s 0 rfl .nil) (q_move rfl) <| WL.p rfl rfl rfl (.s 14 rfl .nil) (q_nilCheck rfl) <| WL.p rfl rfl rfl (.s 15 rfl .nil) (q_field rfl fo108_0 rfl) <| WL.p rfl rfl rfl (.s 16 rfl .nil) (q_field rfl fo29_1 rfl) <| WL.p rfl rfl rfl (.s 17 rfl .nil) (q_load rfl sh27) ?_
 refine WL.p rfl rfl rfl (.s 18 rfl .nil) (q_len rfl elS27) <| WL.p rfl rfl rfl (.k .nil) (q_move rfl) <| WL.nil <| QN.then_ <| W.block ?_
 refine W.loop1 (Γ := Unit) (fun (_ : Unit) (x20 : Int) => [(0, PtrA [SlcA kInt a0.fp.fNodes, SlcA kEdge a0.fp.fEdges, SlcA kInt a0.fg.fNodes, SlcA kEdge a0.fg.fEdges, SlcA (kSl kBool) a0.fis, OptA kInt a0.fpartial.fNodes, OptA kInt a0.fpartial.fEdges, EqA (.bool a0.finjective), EqA (.int .i64 a0.fmost), SlcA kInt a0.fnodes, SlcA kInt a0.fedges, SlcA kMorphism a0.fout]), (3, EqA (.int .i64 ((a0.fnodes.length : Int) - 1))), (18, SlcA kEdge a0.fp.fEdges), (19, EqA (.int .i64 (a0.fp.fEdges.length : Int))), (20, EqA (.int .i64 x20))]) (fun (_ : Unit) (_ : Int) => []) h () (.one rfl (.one rfl (.one rfl (.one rfl (.one rfl (.nil _)))))) rfl (fun rec0 K0 next0 _ x20 h => ?_)
 unfold search_finder_possible.b0 at h
 refine W.seq <| W.region <| WL.p rfl rfl rfl (.s 20 rfl (.s 19 rfl .nil)) (q_int rfl rfl) <| WL.nil <| QN.then_ <| W.seq ?_
 refine W.condP h rfl (fun hb3983 h => ?_) (fun hb3983 h => ?_)
 ·refine W.skip <| QN.then_ <| W.seq <| W.block <| W.seq <| W.region <| WL.p rfl rfl rfl (.s 20 rfl .nil) (q_move rfl) ?_
  obtain ⟨c4011, h⟩ := ite_n h
  refine WL.p rfl rfl rfl (.s 18 rfl (.s 20 rfl .nil)) (q_index rfl el27 rfl c4011.1 c4011.2) <| WL.p rfl rfl rfl (.s 23 rfl .nil) (q_loadS rfl sh77 (leB rfl) rfl) <| WL.w [] rfl (Wanted.plain rfl) rfl rfl .nil (w_alloc rfl z77 (l := [EqA (.int .i64 0), EqA (.int .i64 0), EqA (.int .i64 0)]) rfl) ?_
  rintro _ _ ⟨b4012, rfl, rfl⟩
  refine WL.p rfl rfl rfl (.s 22 rfl .nil) (q_assign rfl) <| WL.w0 [0] rfl (Wanted.plain rfl) rfl (.s 5 rfl (.s 24 rfl .nil)) (w_store (L := [EqA (.int .i64 ((rd a0.fp.fEdges x20).fType)), EqA (.int .i64 ((rd a0.fp.fEdges x20).fFrom)), EqA (.int .i64 ((rd a0.fp.fEdges x20).fTo))]) rfl sh77 (CellsOf.agg _) rfl rfl (leB rfl) rfl) ?_
  rintro _ _ ⟨rfl, rfl⟩
  refine WL.nil <| QN.to (StTo.still [0] 5 rfl rfl) <| QN.then_ <| W.seq <| W.seq <| W.region <| WL.p rfl rfl rfl (.s 5 rfl .nil) (q_field rfl fo77_1 rfl) <| WL.p rfl rfl rfl (.s 25 rfl .nil) (q_load rfl sh3) <| WL.p rfl rfl rfl (.s 5 rfl .nil) (q_field rfl fo77_2 rfl) <| WL.p rfl rfl rfl (.s 27 rfl .nil) (q_load rfl sh3) <| WL.p rfl rfl rfl (.s 26 rfl (.s 28 rfl .nil)) (q_max rfl) <| WL.p rfl rfl rfl (.s 3 rfl .nil) (q_move rfl) <| WL.p rfl rfl rfl (.s 29 rfl (.s 30 rfl .nil)) (q_int rfl rfl) ?_
  refine WL.nil <| QN.weaken (env' := [(31, _), (4, _), (20, _), (19, _), (18, _), (3, _), (0, _)]) (.one rfl (.one rfl (.one rfl (.one rfl (.one rfl (.one rfl (.one rfl (.nil _)))))))) <| QN.then_ ?_
  refine W.condP h rfl (fun hb4013 h => ?_) (fun hb4013 h => ?_)
  ·refine W.exit <| QX.then_ <| QX.here <| QN.then_ <| W.region ?_
   obtain ⟨c4014, h⟩ := ite_n h
   refine WL.p rfl rfl rfl (.s 20 rfl (.k .nil)) (q_addR rfl c4014) <| WL.p rfl rfl rfl (.s 48 rfl .nil) (q_move rfl) <| WL.nil ?_
   exact next0 () (x20 + 1) _ h (.one rfl (.one rfl (.one rfl (.one rfl (.one rfl (.nil _))))))
  ·refine W.skip <| QN.then_ <| W.seq <| W.region <| WL.p rfl rfl rfl (.k .nil) (q_assign rfl) <| WL.nil <| QN.then_ <| W.seq <| W.seq <| W.region <| WL.p rfl rfl rfl (.s 0 rfl .nil) (q_move rfl) <| WL.p rfl rfl rfl (.s 32 rfl .nil) (q_nilCheck rfl) <| WL.p rfl rfl rfl (.s 33 rfl .nil) (q_field rfl fo108_1 rfl) ?_
   refine WL.p rfl rfl rfl (.s 34 rfl .nil) (q_field rfl fo29_1 rfl) <| WL.p rfl rfl rfl (.s 35 rfl .nil) (q_load rfl sh27) <| WL.p rfl rfl rfl (.s 36 rfl .nil) (q_len rfl elS27) <| WL.p rfl rfl rfl (.k .nil) (q_move rfl) <| WL.nil <| QN.then_ <| W.block ?_
   refine W.loop1 (Γ := Unit) (fun (_ : Unit) (x38 : Int) => [(0, PtrA [SlcA kInt a0.fp.fNodes, SlcA kEdge a0.fp.fEdges, SlcA kInt a0.fg.fNodes, SlcA kEdge a0.fg.fEdges, SlcA (kSl kBool) a0.fis, OptA kInt a0.fpartial.fNodes, OptA kInt a0.fpartial.fEdges, EqA (.bool a0.finjective), EqA (.int .i64 a0.fmost), SlcA kInt a0.fnodes, SlcA kInt a0.fedges, SlcA kMorphism a0.fout]), (3, EqA (.int .i64 ((a0.fnodes.length : Int) - 1))), (18, SlcA kEdge a0.fp.fEdges), (19, EqA (.int .i64 (a0.fp.fEdges.length : Int))), (20, EqA (.int .i64 x20)), (4, EqA (.int .i64 x20)), (6, EqA (.bool false)), (37, EqA (.int .i64 (a0.fg.fEdges.length : Int))), (38, EqA (.int .i64 x38))]) (fun (_ : Unit) (_ : Int) => []) h () (.one rfl (.one rfl (.one rfl (.one rfl (.one rfl (.one rfl (.one rfl (.one rfl (.one rfl (.nil _)))))))))) rfl (fun rec1 K1 next1 _ x38 h => ?_)
   unfold search_finder_possible.b1 at h
   refine W.seq <| W.region <| WL.p rfl rfl rfl (.s 38 rfl (.s 37 rfl .nil)) (q_int rfl rfl) <| WL.nil <| QN.then_ <| W.seq ?_
   refine W.condP h rfl (fun hb4037 h => ?_) (fun hb4037 h => ?_)
   ·refine W.skip <| QN.then_ <| W.seq <| W.block <| W.seq <| W.region <| WL.p rfl rfl rfl (.s 38 rfl .nil) (q_move rfl) <| WL.p rfl rfl rfl (.s 40 rfl .nil) (q_assign rfl) <| WL.nil <| QN.then_ <| W.seq <| W.region <| WL.p rfl rfl rfl (.s 0 rfl .nil) (q_move rfl) ?_
    refine WL.p rfl rfl rfl (.s 4 rfl .nil) (q_move rfl) <| WL.p rfl rfl rfl (.s 7 rfl .nil) (q_move rfl) ?_
    obtain ⟨t4038, ht4038, h⟩ := bind_s h
    refine WL.p rfl rfl rfl (.s 41 rfl (.s 42 rfl (.s 43 rfl .nil))) (q_call (f := 89) (A := EqA (.bool t4038)) (xs := [.tmp 41, .tmp 42, .tmp 43]) («as» := [PtrA [SlcA kInt a0.fp.fNodes, SlcA kEdge a0.fp.fEdges, SlcA kInt a0.fg.fNodes, SlcA kEdge a0.fg.fEdges, SlcA (kSl kBool) a0.fis, OptA kInt a0.fpartial.fNodes, OptA kInt a0.fpartial.fEdges, EqA (.bool a0.finjective), EqA (.int .i64 a0.fmost), SlcA kInt a0.fnodes, SlcA kInt a0.fedges, SlcA kMorphism a0.fout], EqA (.int .i64 x20), EqA (.int .i64 x38)]) rfl ca89 (search_finder_fits.con k a0 x20 x38 t4038 ht4038) rfl) <| WL.nil <| QN.then_ ?_
    refine W.condP h rfl (fun hb4039 h => ?_) (fun hb4039 h => ?_)
    ·refine W.seq <| W.region <| WL.p rfl rfl rfl (.k .nil) (q_assign rfl) <| WL.nil <| QN.weaken (env' := [(6, _), (20, _), (19, _), (18, _), (3, _), (0, _)]) (.one rfl (.one rfl (.one rfl (.one rfl (.one rfl (.one rfl (.nil _))))))) <| QN.then_ <| W.exit <| QX.there rfl <| QX.then_ <| QX.then_ <| QX.here <| QN.then_ <| W.seq ?_
     refine W.region <| WL.p rfl rfl rfl (.s 6 rfl .nil) (q_move rfl) <| WL.p rfl rfl rfl (.s 46 rfl .nil) (q_not rfl) <| WL.nil <| QN.then_ <| W.condF rfl rfl <| W.skip <| QN.block <| QN.then_ <| W.region ?_
     obtain ⟨c4040, h⟩ := ite_n h
     refine WL.p rfl rfl rfl (.s 20 rfl (.k .nil)) (q_addR rfl c4040) <| WL.p rfl rfl rfl (.s 48 rfl .nil) (q_move rfl) <| WL.nil ?_
     exact next0 () (x20 + 1) _ h (.one rfl (.one rfl (.one rfl (.one rfl (.one rfl (.nil _))))))
    ·refine W.skip <| QN.block <| QN.weaken (env' := [(38, _), (37, _), (6, _), (4, _), (20, _), (19, _), (18, _), (3, _), (0, _)]) (.one rfl (.one rfl (.one rfl (.one rfl (.one rfl (.one rfl (.one rfl (.one rfl (.one rfl (.nil _)))))))))) <| QN.then_ <| W.region ?_
     obtain ⟨c4041, h⟩ := ite_n h
     refine WL.p rfl rfl rfl (.s 38 rfl (.k .nil)) (q_addR rfl c4041) <| WL.p rfl rfl rfl (.s 45 rfl .nil) (q_move rfl) <| WL.nil ?_
     exact next1 () (x38 + 1) _ h (.one rfl (.one rfl (.one rfl (.one rfl (.one rfl (.one rfl (.one rfl (.one rfl (.one rfl (.nil _))))))))))
   ·refine W.exit <| QX.then_ <| QX.then_ <| QX.here <| QN.then_ <| W.seq <| W.region <| WL.p rfl rfl rfl (.s 6 rfl .nil) (q_move rfl) <| WL.p rfl rfl rfl (.s 46 rfl .nil) (q_not rfl) <| WL.nil <| QN.then_ <| W.condT rfl rfl <| W.seq ?_
    refine W.region <| WL.p rfl rfl rfl (.k .nil) (q_assign rfl) <| WL.nil <| QN.weaken (env' := [(2, _)]) (.one rfl (.nil _)) <| QN.then_ <| W.ret <| QR.block <| QR.then_ <| QR.then_ <| QR.block <| QR.then_ ?_
    cases h
    exact QR.f1 rfl rfl (.t rfl) (.id _)
 ·refine W.exit <| QX.then_ <| QX.then_ <| QX.here <| QN.then_ <| W.seq <| W.region <| WL.p rfl rfl rfl (.k .nil) (q_assign rfl) <| WL.nil <| QN.then_ <| W.ret ?_
  cases h
  exact QR.f1 rfl rfl (.t rfl) (.id _)
theorem slices_Clone_int.conN (k : Nat) (a0 : (List Int)) (r : (List Int)) (h : slices_Clone_int k a0 = some r) : Con Tryz.prog 90 [] [SlcA kInt a0] (RApp 3 kInt r) := by
  unfold slices_Clone_int at h
  obtain ⟨hl, h⟩ := ite_n h
  cases h
  refine Con.of (N := 8) Tryz.func90 rfl rfl rfl fun w0_ fg_ => ?_
  refine W.seq (W.region (WL.p rfl rfl rfl (.k .nil) (q_assign rfl) (WL.nil (QN.then_ ?_))))
  refine W.seq (W.seq (W.region (WL.p rfl rfl rfl (.s 0 rfl .nil) (q_move rfl) (WL.p rfl rfl rfl (.s 3 rfl .nil) (q_nilAny (kd := kInt) (xs := a0) rfl elS26) (WL.nil (QN.then_ ?_))))))
  refine W.condAny rfl (fun hp => ?_) (fun _ => ?_)
  · have hn := hp rfl
    subst hn
    refine W.seq (W.region (WL.p rfl rfl rfl (.k .nil) (q_assign rfl) (WL.nil (QN.then_ ?_))))
    refine W.ret (QR.then_ ?_)
    refine QR.to (StTo.newNil 3 kInt) ?_
    refine QR.to (StTo.as 2 rfl Imp.nilHd) ?_
    exact QR.tmp rfl rfl ⟨_, rfl, rfl⟩
  · refine W.skip (QN.then_ ?_)
    refine W.seq (W.region ?_)
    refine WL.p rfl rfl rfl .nil (q_lit0 rfl el26 gr3) ?_
    refine WL.p rfl rfl rfl (.s 0 rfl .nil) (q_move rfl) ?_
    refine WL.w [] rfl (Wanted.plain rfl) rfl rfl (.s 5 rfl (.s 6 rfl .nil)) (w_appendZ (kd := kInt) rfl el26 rfl gr3 hl) ?_
    rintro _ _ ⟨v, rfl, rfl⟩
    refine WL.p rfl rfl rfl (.s 7 rfl .nil) (q_assign rfl) ?_
    refine WL.nil (QN.then_ ?_)
    refine W.ret ?_
    exact QR.tmp rfl rfl ⟨_, rfl, rfl⟩
theorem slices_Clone_int.con (k : Nat) (a0 : (List Int)) (r : (List Int)) (h : slices_Clone_int k a0 = some r) : Con Tryz.prog 90 [] [SlcA kInt a0] (RA (SlcA kInt r)) := Con.free (slices_Clone_int.conN k a0 r h)
theorem search_finder_find.con : ∀ (k : Nat) (b : Nat) (w0 : Value) (w1 : Value) (w2 : Value) (a0 : Finder) (r : ((List Int) × (List Int) × (List Morphism))) (_ : search_finder_find k a0 = some r), Con Tryz.prog 63 [BoxE b [SlcA kInt a0.fp.fNodes, SlcA kEdge a0.fp.fEdges, SlcA kInt a0.fg.fNodes, SlcA kEdge a0.fg.fEdges, SlcA (kSl kBool) a0.fis, OptA kInt a0.fpartial.fNodes, OptA kInt a0.fpartial.fEdges, EqA (.bool a0.finjective), EqA (.int .i64 a0.fmost), HdA w0, HdA w1, HdA w2], SlE 3 w0 kInt a0.fnodes, SlE 3 w1 kInt a0.fedges, SlE 33 w2 kMorphism a0.fout] [EqA (.pointer (some ⟨b, 0, none⟩))] (fun O' A => ∃ u0 u1 u2, O' = [BoxE b [SlcA kInt a0.fp.fNodes, SlcA kEdge a0.fp.fEdges, SlcA kInt a0.fg.fNodes, SlcA kEdge a0.fg.fEdges, SlcA (kSl kBool) a0.fis, OptA kInt a0.fpartial.fNodes, OptA kInt a0.fpartial.fEdges, EqA (.bool a0.finjective), EqA (.int .i64 a0.fmost), HdA u0, HdA u1, HdA u2], SlE 3 u0 kInt r.1, SlE 3 u1 kInt r.2.1, SlE 33 u2 kMorphism r.2.2] ∧ A = TupA []) := by
 intro k
 induction k with
 | zero => intro b w0 w1 w2 a0 r h; cases h
 | succ k ih =>
  intro b w0 w1 w2 a0 r h
  change search_finder_find.main (search_finder_find k) k a0 = some r at h
  unfold search_finder_find.main at h
  refine Con.of (N := 208) Tryz.func63 rfl rfl rfl fun w0_ fg_ => W.block <| W.seq <| W.drawK [(0, false), (1, false), (2, false), (3, true), (4, true), (5, false), (6, false), (7, false), (8, true), (9, false), (10, false)] [] [[], [0], [0, 1], [0, 1, 2], [0, 1, 2, 3], [], [5], [5, 6], [5, 6, 7], [0, 1, 2, 3, 4, 5, 6, 7, 8], [0, 1, 2, 3, 4, 5, 6, 7, 8, 9]] mx (by kernel_rfl) <| DK.cons rfl rfl (.p rfl (.s 0 rfl .nil) rfl (q_move rfl)) <| DK.cons rfl rfl (.p rfl (.s 29 rfl .nil) rfl (q_nilCheckP rfl)) <| DK.cons rfl rfl (.p rfl (.s 30 rfl .nil) rfl (q_fieldP rfl fo108_8)) <| DK.cons rfl rfl (.o rfl (.s 31 rfl .nil) rfl (q_loadB rfl sh46 (i := 0) rfl rfl)) <| DK.cons rfl rfl (.o rfl (.s 32 rfl .nil) rfl (q_lenO rfl elS46 (i := 3) rfl)) <| DK.cons rfl rfl (.p rfl (.s 0 rfl .nil) rfl (q_move rfl)) <| DK.cons rfl rfl (.p rfl (.s 34 rfl .nil) rfl (q_nilCheckP rfl)) <| DK.cons rfl rfl (.p rfl (.s 35 rfl .nil) rfl (q_fieldP rfl fo108_5)) <| DK.cons rfl rfl (.o rfl (.s 36 rfl .nil) rfl (q_loadB rfl sh3 (i := 0) rfl rfl)) ?_
  refine DK.cons rfl rfl (.p rfl (.s 33 rfl (.s 37 rfl .nil)) rfl (q_int rfl rfl)) <| DK.cons rfl rfl (.p rfl (.s 38 rfl .nil) rfl (q_assign rfl)) <| DK.nil <| CSteps.nil <| QN.weaken (env' := [(28, _), (0, _)]) (.one rfl (.one rfl (.nil _))) <| QN.then_ ?_
  refine W.condP h rfl (fun hb5527 h => ?_) (fun hb5527 h => ?_)
  ·refine W.skip <| QN.block ?_
   cases h
   exact QN.f0 rfl rfl ⟨w0, w1, w2, rfl, rfl⟩
  ·refine W.seq <| W.drawK [(0, false), (1, false), (2, false), (3, true), (4, true), (5, false), (6, false), (7, false), (8, false), (9, true), (10, false), (11, false), (12, false)] [] [[], [0], [0, 1], [0, 1, 2], [0, 1, 2, 3], [], [5], [5, 6], [5, 6, 7], [5, 6, 7, 8], [5, 6, 7, 8, 9], [0, 1, 2, 3, 4, 5, 6, 7, 8, 9, 10], [0, 1, 2, 3, 4, 5, 6, 7, 8, 9, 10, 11]] mx (by kernel_rfl) <| DK.cons rfl rfl (.p rfl (.s 0 rfl .nil) rfl (q_move rfl)) <| DK.cons rfl rfl (.p rfl (.s 40 rfl .nil) rfl (q_nilCheckP rfl)) <| DK.cons rfl rfl (.p rfl (.s 41 rfl .nil) rfl (q_fieldP rfl fo108_6)) <| DK.cons rfl rfl (.o rfl (.s 42 rfl .nil) rfl (q_loadB rfl sh26 (i := 0) rfl rfl)) <| DK.cons rfl rfl (.o rfl (.s 43 rfl .nil) rfl (q_lenO rfl elS26 (i := 1) rfl)) <| DK.cons rfl rfl (.p rfl (.s 0 rfl .nil) rfl (q_move rfl)) <| DK.cons rfl rfl (.p rfl (.s 45 rfl .nil) rfl (q_nilCheckP rfl)) <| DK.cons rfl rfl (.p rfl (.s 46 rfl .nil) rfl (q_fieldP rfl fo108_0)) <| DK.cons rfl rfl (.p rfl (.s 47 rfl .nil) rfl (q_fieldP rfl fo29_0)) <| DK.cons rfl rfl (.o rfl (.s 48 rfl .nil) rfl (q_loadB rfl sh26 (i := 0) rfl rfl)) <| DK.cons rfl rfl (.p rfl (.s 49 rfl .nil) rfl (q_len rfl elS26)) ?_
   refine DK.cons rfl rfl (.p rfl (.s 44 rfl (.s 50 rfl .nil)) rfl (q_int rfl rfl)) <| DK.cons rfl rfl (.p rfl (.s 51 rfl .nil) rfl (q_assign rfl)) <| DK.nil <| CSteps.nil <| QN.weaken (env' := [(39, _), (0, _)]) (.one rfl (.one rfl (.nil _))) <| QN.then_ ?_
   refine W.jn3 (Γ := (Value × Value × Value)) (fun (_ : (Value × Value × Value)) (_ : (List Int)) (_ : (List Int)) (_ : (List Morphism)) => [(0, EqA (.pointer (some ⟨b, 0, none⟩)))]) (fun (g6266 : (Value × Value × Value)) (y9 : (List Int)) (y10 : (List Int)) (y11 : (List Morphism)) => [BoxE b [SlcA kInt a0.fp.fNodes, SlcA kEdge a0.fp.fEdges, SlcA kInt a0.fg.fNodes, SlcA kEdge a0.fg.fEdges, SlcA (kSl kBool) a0.fis, OptA kInt a0.fpartial.fNodes, OptA kInt a0.fpartial.fEdges, EqA (.bool a0.finjective), EqA (.int .i64 a0.fmost), HdA g6266.1, HdA g6266.2.1, HdA g6266.2.2], SlE 3 g6266.1 kInt y9, SlE 3 g6266.2.1 kInt y10, SlE 33 g6266.2.2 kMorphism y11]) h (fun g6266 y9 y10 y11 h => ?_) (fun j6273 Kj6273 h => ?_)
   ·refine QN.block ?_
    cases h
    exact QN.f0 rfl rfl ⟨g6266.1, g6266.2.1, g6266.2.2, rfl, rfl⟩
   ·refine W.condP h rfl (fun hb6274 h => ?_) (fun hb6274 h => ?_)
    ·refine W.seq <| W.region <| WL.p rfl rfl rfl (.s 0 rfl .nil) (q_move rfl) <| WL.p rfl rfl rfl (.s 52 rfl .nil) (q_nilCheckP rfl) <| WL.p rfl rfl rfl (.s 53 rfl .nil) (q_fieldP rfl fo108_6) <| WL.q (Wanted.plain rfl) rfl rfl (.s 54 rfl .nil) (q_loadB rfl sh26 (i := 0) rfl rfl) <| WL.q (Wanted.plain rfl) rfl rfl (.s 55 rfl .nil) (q_lenO rfl elS26 (i := 1) rfl) <| WL.p rfl rfl rfl (.s 56 rfl .nil) (q_assign rfl) <| WL.nil <| QN.then_ <| W.seq <| W.region <| WL.p rfl rfl rfl (.s 0 rfl .nil) (q_move rfl) ?_
     refine WL.p rfl rfl rfl (.s 57 rfl .nil) (q_nilCheckP rfl) <| WL.p rfl rfl rfl (.s 58 rfl .nil) (q_fieldP rfl fo108_1) <| WL.p rfl rfl rfl (.s 59 rfl .nil) (q_fieldP rfl fo29_0) <| WL.q (Wanted.plain rfl) rfl rfl (.s 60 rfl .nil) (q_loadB rfl sh26 (i := 0) rfl rfl) <| WL.p rfl rfl rfl (.s 61 rfl .nil) (q_len rfl elS26) <| WL.p rfl rfl rfl (.k .nil) (q_move rfl) <| WL.nil <| QN.weaken (env' := [(63, _), (62, _), (61, _), (2, _), (0, _)]) (.one rfl (.one rfl (.one rfl (.one rfl (.one rfl (.nil _)))))) <| QN.then_ <| W.block ?_
     refine W.loop4 (Γ := (Value × Value × Value)) (fun (_ : (Value × Value × Value)) (_ : (List Int)) (_ : (List Int)) (_ : (List Morphism)) (x63 : Int) => [(0, EqA (.pointer (some ⟨b, 0, none⟩))), (2, EqA (.int .i64 (a0.fnodes.length : Int))), (61, SlcA kInt a0.fg.fNodes), (62, EqA (.int .i64 (a0.fg.fNodes.length : Int))), (63, EqA (.int .i64 x63))]) (fun (g0 : (Value × Value × Value)) (y9 : (List Int)) (y10 : (List Int)) (y11 : (List Morphism)) (_ : Int) => [BoxE b [SlcA kInt a0.fp.fNodes, SlcA kEdge a0.fp.fEdges, SlcA kInt a0.fg.fNodes, SlcA kEdge a0.fg.fEdges, SlcA (kSl kBool) a0.fis, OptA kInt a0.fpartial.fNodes, OptA kInt a0.fpartial.fEdges, EqA (.bool a0.finjective), EqA (.int .i64 a0.fmost), HdA g0.1, HdA g0.2.1, HdA g0.2.2], SlE 3 g0.1 kInt y9, SlE 3 g0.2.1 kInt y10, SlE 33 g0.2.2 kMorphism y11]) h (w0, w1, w2) (.one rfl (.one rfl (.one rfl (.one rfl (.one rfl (.nil _)))))) rfl (fun rec0 K0 next0 g0 y9 y10 y11 x63 h => ?_)
     unfold search_finder_find.b0 at h
     refine W.seq <| W.region <| WL.p rfl rfl rfl (.s 63 rfl (.s 62 rfl .nil)) (q_int rfl rfl) <| WL.nil <| QN.then_ <| W.seq ?_
     refine W.condP h rfl (fun hb6573 h => ?_) (fun hb6573 h => ?_)
     ·refine W.skip <| QN.then_ <| W.seq <| W.block <| W.seq <| W.region <| WL.p rfl rfl rfl (.s 63 rfl .nil) (q_move rfl) ?_
      obtain ⟨c6644, h⟩ := ite_n h
      refine WL.p rfl rfl rfl (.s 61 rfl (.s 63 rfl .nil)) (q_index rfl el26 rfl c6644.1 c6644.2) <| WL.p rfl rfl rfl (.s 66 rfl .nil) (q_load rfl sh3) <| WL.p rfl rfl rfl (.s 65 rfl .nil) (q_assign rfl) <| WL.p rfl rfl rfl (.s 67 rfl .nil) (q_assign rfl) <| WL.nil <| QN.then_ <| W.seq <| W.seq <| W.region <| WL.p rfl rfl rfl (.s 0 rfl .nil) (q_move rfl) <| WL.p rfl rfl rfl (.s 68 rfl .nil) (q_nilCheckP rfl) <| WL.p rfl rfl rfl (.s 69 rfl .nil) (q_fieldP rfl fo108_3) <| WL.p rfl rfl rfl (.s 70 rfl .nil) (q_fieldP rfl fo33_0) ?_
      refine WL.q (Wanted.plain rfl) rfl rfl (.s 71 rfl .nil) (q_loadB rfl sh26 (i := 0) rfl rfl) <| WL.p rfl rfl rfl (.s 2 rfl .nil) (q_move rfl) ?_
      obtain ⟨t6645, ht6645, h⟩ := bind_s h
      refine WL.p rfl rfl rfl (.s 72 rfl (.s 73 rfl .nil)) (q_call (f := 86) (A := EqA (.int .i64 t6645)) (xs := [.tmp 72, .tmp 73]) («as» := [OptA kInt a0.fpartial.fNodes, EqA (.int .i64 (a0.fnodes.length : Int))]) rfl ca86 (search_given.con k a0.fpartial.fNodes (a0.fnodes.length : Int) t6645 ht6645) rfl) <| WL.p rfl rfl rfl (.s 74 rfl .nil) (q_assign rfl) <| WL.nil <| QN.weaken (env' := [(5, _), (4, _), (3, _), (63, _), (62, _), (61, _), (2, _), (0, _)]) (.one rfl (.one rfl (.one rfl (.one rfl (.one rfl (.one rfl (.one rfl (.one rfl (.nil _))))))))) <| QN.then_ <| W.seq ?_
      refine W.jn1 (Γ := Unit) (fun (_ : Unit) (x115 : Bool) => [(0, EqA (.pointer (some ⟨b, 0, none⟩))), (2, EqA (.int .i64 (a0.fnodes.length : Int))), (61, SlcA kInt a0.fg.fNodes), (62, EqA (.int .i64 (a0.fg.fNodes.length : Int))), (63, EqA (.int .i64 x63)), (3, EqA (.int .i64 x63)), (115, EqA (.bool x115))]) (fun (_ : Unit) (_ : Bool) => [BoxE b [SlcA kInt a0.fp.fNodes, SlcA kEdge a0.fp.fEdges, SlcA kInt a0.fg.fNodes, SlcA kEdge a0.fg.fEdges, SlcA (kSl kBool) a0.fis, OptA kInt a0.fpartial.fNodes, OptA kInt a0.fpartial.fEdges, EqA (.bool a0.finjective), EqA (.int .i64 a0.fmost), HdA g0.1, HdA g0.2.1, HdA g0.2.2], SlE 3 g0.1 kInt y9, SlE 3 g0.2.1 kInt y10, SlE 33 g0.2.2 kMorphism y11]) h (fun _ x115 h => ?_) (fun j6675 Kj6675 h => ?_)
      ·refine QN.then_ ?_
       refine W.condP h rfl (fun hb6676 h => ?_) (fun hb6676 h => ?_)
       ·refine W.exit <| QX.then_ <| QX.here <| QN.then_ <| W.region ?_
        obtain ⟨c6677, h⟩ := ite_n h
        refine WL.p rfl rfl rfl (.s 63 rfl (.k .nil)) (q_addR rfl c6677) <| WL.p rfl rfl rfl (.s 139 rfl .nil) (q_move rfl) <| WL.nil ?_
        exact next0 (g0.1, g0.2.1, g0.2.2) y9 y10 y11 (x63 + 1) _ h (.one rfl (.one rfl (.one rfl (.one rfl (.one rfl (.nil _))))))
       ·refine W.skip <| QN.then_ <| W.seq <| W.region <| WL.p rfl rfl rfl (.s 0 rfl .nil) (q_move rfl) <| WL.p rfl rfl rfl (.s 0 rfl .nil) (q_move rfl) <| WL.p rfl rfl rfl (.s 117 rfl .nil) (q_nilCheckP rfl) <| WL.p rfl rfl rfl (.s 118 rfl .nil) (q_fieldP rfl fo108_6) <| WL.q (Wanted.plain rfl) rfl rfl (.s 119 rfl .nil) (q_loadB rfl sh26 (i := 0) rfl rfl) <| WL.p rfl rfl rfl (.s 3 rfl .nil) (q_move rfl) <| WL.p rfl rfl rfl (.s 121 rfl .nil) (q_lit (kd := kInt) (ps := [(0, .tmp 121)]) (xs := [.tmp 121]) («as» := [EqA (.int .i64 x63)]) (ys := [x63]) rfl rfl el26 rfl gr3 rfl rfl rfl (.cons (CellsOf.one rfl) .nil)) ?_
        obtain ⟨c6678, h⟩ := ite_n h
        refine WL.w [1] rfl (Wanted.plain rfl) rfl rfl (.s 120 rfl (.s 122 rfl .nil)) (w_append (kd := kInt) rfl el26 rfl gr3 c6678) ?_
        rintro _ _ ⟨v6679, rfl, rfl⟩
        refine WL.p rfl rfl rfl (.s 116 rfl .nil) (q_nilCheckP rfl) <| WL.p rfl rfl rfl (.s 124 rfl .nil) (q_fieldP rfl fo108_6) <| WL.w0 [1] rfl (Wanted.plain rfl) rfl (.s 125 rfl (.s 123 rfl .nil)) (w_store (L := [SlcA kInt a0.fp.fNodes, SlcA kEdge a0.fp.fEdges, SlcA kInt a0.fg.fNodes, SlcA kEdge a0.fg.fEdges, SlcA (kSl kBool) a0.fis, OptA kInt a0.fpartial.fNodes, OptA kInt a0.fpartial.fEdges, EqA (.bool a0.finjective), EqA (.int .i64 a0.fmost), HdA v6679, HdA g0.2.1, HdA g0.2.2]) rfl sh26 (CellsOf.one rfl) rfl rfl (leB rfl) rfl) ?_
        rintro _ _ ⟨rfl, rfl⟩
        refine WL.nil <| QN.weaken (env' := [(63, _), (62, _), (61, _), (2, _), (0, _)]) (.one rfl (.one rfl (.one rfl (.one rfl (.one rfl (.nil _)))))) <| QN.then_ <| W.seq <| W.seq <| W.region <| WL.p rfl rfl rfl (.s 0 rfl .nil) (q_move rfl) ?_
        obtain ⟨t6680, ht6680, h⟩ := bind_s h
        refine WL.q (Wanted.plain rfl) rfl rfl (.s 126 rfl .nil) (q_lend (f := 88) (A := EqA (.bool t6680)) (xs := [.tmp 126]) («as» := [EqA (.pointer (some ⟨b, 0, none⟩))]) rfl ca88 (search_finder_possible.con k (Finder.mk a0.fp a0.fg a0.fis a0.fpartial a0.finjective a0.fmost (y9 ++ [x63]) y10 y11) t6680 ht6680) rfl (.cons (.box 0 rfl (.cons (.id _) (.cons (.id _) (.cons (.id _) (.cons (.id _) (.cons (.id _) (.cons (.id _) (.cons (.id _) (.cons (.id _) (.cons (.id _) (.cons (.slc 1 rfl) (.cons (.slc 2 rfl) (.cons (.slc 3 rfl) .nil))))))))))))) .nil) (Flat.eq _)) <| WL.nil <| QN.then_ ?_
        refine W.jn3 (Γ := (Value × Value × Value)) (fun (_ : (Value × Value × Value)) (_ : (List Int)) (_ : (List Int)) (_ : (List Morphism)) => [(0, EqA (.pointer (some ⟨b, 0, none⟩))), (2, EqA (.int .i64 (a0.fnodes.length : Int))), (61, SlcA kInt a0.fg.fNodes), (62, EqA (.int .i64 (a0.fg.fNodes.length : Int))), (63, EqA (.int .i64 x63))]) (fun (g6686 : (Value × Value × Value)) (y9' : (List Int)) (y10' : (List Int)) (y11' : (List Morphism)) => [BoxE b [SlcA kInt a0.fp.fNodes, SlcA kEdge a0.fp.fEdges, SlcA kInt a0.fg.fNodes, SlcA kEdge a0.fg.fEdges, SlcA (kSl kBool) a0.fis, OptA kInt a0.fpartial.fNodes, OptA kInt a0.fpartial.fEdges, EqA (.bool a0.finjective), EqA (.int .i64 a0.fmost), HdA g6686.1, HdA g6686.2.1, HdA g6686.2.2], SlE 3 g6686.1 kInt y9', SlE 3 g6686.2.1 kInt y10', SlE 33 g6686.2.2 kMorphism y11']) h (fun g6686 y9' y10' y11' h => ?_) (fun j6693 Kj6693 h => ?_)
        ·refine QN.then_ <| W.region <| WL.p rfl rfl rfl (.s 0 rfl .nil) (q_move rfl) <| WL.p rfl rfl rfl (.s 0 rfl .nil) (q_move rfl) <| WL.p rfl rfl rfl (.s 131 rfl .nil) (q_nilCheckP rfl) <| WL.p rfl rfl rfl (.s 132 rfl .nil) (q_fieldP rfl fo108_6) <| WL.q (Wanted.plain rfl) rfl rfl (.s 133 rfl .nil) (q_loadB rfl sh26 (i := 0) rfl rfl) <| WL.p rfl rfl rfl (.s 2 rfl .nil) (q_move rfl) ?_
         obtain ⟨c6694, h⟩ := ite_n h
         refine WL.w [1] rfl (Wanted.plain rfl) rfl rfl (.s 134 rfl (.s 135 rfl .nil)) (w_sub rfl el26 rfl c6694.1 c6694.2) ?_
         rintro _ _ ⟨v6695, rfl, rfl⟩
         refine WL.p rfl rfl rfl (.s 130 rfl .nil) (q_nilCheckP rfl) <| WL.p rfl rfl rfl (.s 137 rfl .nil) (q_fieldP rfl fo108_6) <| WL.w0 [1] rfl (Wanted.plain rfl) rfl (.s 138 rfl (.s 136 rfl .nil)) (w_store (L := [SlcA kInt a0.fp.fNodes, SlcA kEdge a0.fp.fEdges, SlcA kInt a0.fg.fNodes, SlcA kEdge a0.fg.fEdges, SlcA (kSl kBool) a0.fis, OptA kInt a0.fpartial.fNodes, OptA kInt a0.fpartial.fEdges, EqA (.bool a0.finjective), EqA (.int .i64 a0.fmost), HdA v6695, HdA g6686.2.1, HdA g6686.2.2]) rfl sh26 (CellsOf.one rfl) rfl rfl (leB rfl) rfl) ?_
         rintro _ _ ⟨rfl, rfl⟩
         refine WL.nil <| QN.block <| QN.weaken (env' := [(63, _), (62, _), (61, _), (2, _), (0, _)]) (.one rfl (.one rfl (.one rfl (.one rfl (.one rfl (.nil _)))))) <| QN.then_ <| W.region ?_
         obtain ⟨c6696, h⟩ := ite_n h
         refine WL.p rfl rfl rfl (.s 63 rfl (.k .nil)) (q_addR rfl c6696) <| WL.p rfl rfl rfl (.s 139 rfl .nil) (q_move rfl) <| WL.nil ?_
         exact next0 (v6695, g6686.2.1, g6686.2.2) (y9'.take ((a0.fnodes.length : Int) : Int).toNat) y10' y11' (x63 + 1) _ h (.one rfl (.one rfl (.one rfl (.one rfl (.one rfl (.nil _))))))
        ·refine W.condP h rfl (fun hb6697 h => ?_) (fun hb6697 h => ?_)
         ·refine W.region <| WL.p rfl rfl rfl (.s 0 rfl .nil) (q_move rfl) ?_
          obtain ⟨t6698, ht6698, h⟩ := bind_s h
          refine WL.w [0, 0, 0, 0] rfl (Wanted.plain rfl) rfl rfl (.s 128 rfl .nil) (w_callI (f := 63) (xs := [.tmp 128]) («as» := [EqA (.pointer (some ⟨b, 0, none⟩))]) rfl ca63 (ih b v6679 g0.2.1 g0.2.2 (Finder.mk a0.fp a0.fg a0.fis a0.fpartial a0.finjective a0.fmost (y9 ++ [x63]) y10 y11) t6698 ht6698) rfl (.cons (Imp.id _) .nil)) ?_
          rintro _ _ ⟨v6699, v6700, v6701, rfl, rfl⟩
          refine WL.nil ?_
          exact QN.weaken (.one rfl (.one rfl (.one rfl (.one rfl (.one rfl (.nil _)))))) (Kj6693 (v6699, v6700, v6701) t6698.1 t6698.2.1 t6698.2.2 h)
         ·refine W.skip ?_
          exact QN.weaken (.one rfl (.one rfl (.one rfl (.one rfl (.one rfl (.nil _)))))) (Kj6693 (v6679, g0.2.1, g0.2.2) (y9 ++ [x63]) y10 y11 h)
      ·refine W.drawK [(0, false), (1, false), (2, false), (3, false), (4, false), (5, false), (6, false), (7, false), (8, false), (9, false), (10, false), (11, true), (12, false), (13, false), (14, false), (15, false), (16, true), (17, false), (18, false), (19, false), (20, false), (21, false), (22, false), (23, false), (24, false), (25, false), (26, false), (27, false), (28, false), (29, false), (30, false), (31, true), (32, false), (33, false), (34, false), (35, false), (36, true), (37, false), (38, true), (39, false), (40, false)] [] [[], [0], [0, 1], [0, 1, 2], [0, 1, 2], [0, 1, 2, 3, 4], [0, 1, 2, 3, 4, 5], [0, 1, 2, 3, 4, 5, 6], [0, 1, 2, 3, 4, 5, 6, 7], [0, 1, 2, 3, 4, 5, 6, 7, 8], [0, 1, 2, 3, 4, 5, 6, 7, 8, 9], [0, 1, 2, 3, 4, 5, 6, 7, 8, 9, 10], [0, 1, 2, 3, 4, 5, 6, 7], [0, 1, 2, 3, 4, 5, 6, 7, 12], [0, 1, 2, 3, 4, 5, 6, 7, 12, 13], [0, 1, 2, 3, 4, 5, 6, 7, 12, 13, 14], [0, 1, 2, 3, 4, 5, 6, 7, 12, 13, 14, 15], [0, 1, 2, 3, 4, 5, 6, 7], [0, 1, 2, 3, 4, 5, 6, 7, 12, 13, 14, 15, 16, 17], [0, 1, 2, 3, 4, 5, 6, 7, 12, 13, 14, 15, 16, 17, 18], [0, 1, 2, 3, 4, 5, 6, 7, 8, 9, 10, 11, 12, 13, 14, 15, 16, 17, 18, 19], [0, 1, 2, 3, 4, 5, 6, 7, 8, 9, 10, 11, 12, 13, 14, 15, 16, 17, 18, 19, 20], [0, 1, 2, 3, 4, 5, 6, 7], [0, 1, 2, 3, 4, 5, 6, 7, 8, 9, 10, 11, 12, 13, 14, 15, 16, 17, 18, 19, 20, 21, 22], [0, 1, 2, 3, 4, 5, 6, 7, 8, 9, 10, 11, 12, 13, 14, 15, 16, 17, 18, 19, 20, 21, 22, 23], [0, 1, 2, 3, 4, 5, 6, 7, 8, 9, 10, 11, 12, 13, 14, 15, 16, 17, 18, 19, 20, 21, 22, 23, 24], [0, 1, 2, 3, 4, 5, 6, 7, 8, 9, 10, 11, 12, 13, 14, 15, 16, 17, 18, 19, 20, 21, 22, 23, 24, 25], [0, 1, 2, 3, 4, 5, 6, 7, 8, 9, 10, 11, 12, 13, 14, 15, 16, 17, 18, 19, 20, 21, 22, 23, 24, 25, 26], [0, 1, 2, 3, 4, 5, 6, 7, 8, 9, 10, 11, 12, 13, 14, 15, 16, 17, 18, 19, 20, 21, 22, 23, 24, 25, 26, 27], [0, 1, 2, 3, 4, 5, 6, 7, 8, 9, 10, 11, 12, 13, 14, 15, 16, 17, 18, 19, 20, 21, 22, 23, 24, 25, 26, 27, 28], [0, 1, 2, 3, 4, 5, 6, 7, 8, 9, 10, 11, 12, 13, 14, 15, 16, 17, 18, 19, 20, 21, 22, 23, 24, 25, 26, 27, 28, 29], [0, 1, 2, 3, 4, 5, 6, 7, 8, 9, 10, 11, 12, 13, 14, 15, 16, 17, 18, 19, 20, 21, 22, 23, 24, 25, 26, 27, 28, 29, 30], [0, 1, 2, 3, 4, 5, 6, 7, 8, 9, 10, 11, 12, 13, 14, 15, 16, 17, 18, 19, 20, 21, 22, 23, 24, 25, 26, 27, 28, 29, 30, 31], [0, 1, 2, 3, 4, 5, 6, 7, 8, 9, 10, 11, 12, 13, 14, 15, 16, 17, 18, 19, 20, 21, 22, 23, 24, 25, 26, 27, 28, 29, 30, 31, 32], [0, 1, 2, 3, 4, 5, 6, 7, 8, 9, 10, 11, 12, 13, 14, 15, 16, 17, 18, 19, 20, 21, 22, 23, 24, 25, 26, 27, 28, 29, 30, 31, 32, 33], [0, 1, 2, 3, 4, 5, 6, 7, 8, 9, 10, 11, 12, 13, 14, 15, 16, 17, 18, 19, 20, 21, 22, 23, 24, 25, 26, 27, 28, 29, 30, 31, 32, 33, 34], [0, 1, 2, 3, 4, 5, 6, 7, 8, 9, 10, 11, 12, 13, 14, 15, 16, 17, 18, 19, 20, 21, 22, 23, 24, 25, 26, 27, 28, 29, 30, 31, 32, 33, 34, 35], [0, 1, 2, 3, 4, 5, 6, 7, 8, 9, 10, 11, 12, 13, 14, 15, 16, 17, 18, 19, 20, 21, 22, 23, 24, 25, 26, 27, 28, 29, 30, 31, 32], [0, 1, 2, 3, 4, 5, 6, 7, 8, 9, 10, 11, 12, 13, 14, 15, 16, 17, 18, 19, 20, 21, 22, 23, 24, 25, 26, 27, 28, 29, 30, 31, 32, 33, 34, 35, 36, 37], [0, 1, 2, 3, 4, 5, 6, 7, 8, 9, 10, 11, 12, 13, 14, 15, 16, 17, 18, 19, 20, 21, 22, 23, 24, 25, 26, 27, 28, 29, 30, 31, 32, 33, 34, 35, 36, 37, 38], [0, 1, 2, 3, 4, 5, 6, 7, 8, 9, 10, 11, 12, 13, 14, 15, 16, 17, 18, 19, 20, 21, 22, 23, 24, 25, 26, 27, 28, 29, 30, 31, 32, 33, 34, 35, 36, 37, 38, 39]] mx (by kernel_rfl) <| DK.cons rfl rfl (.p rfl (.s 5 rfl .nil) rfl (q_move rfl)) <| DK.cons rfl rfl (.p rfl (.s 75 rfl (.k .nil)) rfl (q_int rfl rfl)) <| DK.cons rfl rfl (.p rfl (.s 76 rfl .nil) rfl (q_move rfl)) ?_
       rcases bif_s h with ⟨hb6702, h⟩ | ⟨hb6702, h⟩
       ·refine DK.cons rfl rfl (.gp rfl rfl rfl hb6702 (.s 5 rfl .nil) rfl (q_move rfl)) <| DK.cons rfl rfl (.gp rfl rfl rfl hb6702 (.s 3 rfl .nil) rfl (q_move rfl)) <| DK.cons rfl rfl (.gp rfl rfl rfl hb6702 (.s 78 rfl (.s 79 rfl .nil)) rfl (q_int rfl rfl)) <| DK.cons rfl rfl (.p rfl (.s 77 rfl (.s 80 rfl .nil)) rfl (q_pickT rfl hb6702)) <| DK.cons rfl rfl (.p rfl (.s 81 rfl .nil) rfl (q_move rfl)) ?_
        rcases bif_s h with ⟨hb6703, h⟩ | ⟨hb6703, h⟩
        ·refine DK.cons rfl rfl (.off rfl rfl rfl hb6703) <| DK.cons rfl rfl (.off rfl rfl rfl hb6703) <| DK.cons rfl rfl (.off rfl rfl rfl hb6703) <| DK.cons rfl rfl (.off rfl rfl rfl hb6703) <| DK.cons rfl rfl (.off rfl rfl rfl hb6703) <| DK.cons rfl rfl (.off rfl rfl rfl hb6703) <| DK.cons rfl rfl (.off rfl rfl rfl hb6703) <| DK.cons rfl rfl (.off rfl rfl rfl hb6703) <| DK.cons rfl rfl (.off rfl rfl rfl hb6703) <| DK.cons rfl rfl (.off rfl rfl rfl hb6703) <| DK.cons rfl rfl (.off rfl rfl rfl hb6703) <| DK.cons rfl rfl (.off rfl rfl rfl hb6703) <| DK.cons rfl rfl (.off rfl rfl rfl hb6703) ?_
         refine DK.cons rfl rfl (.off rfl rfl rfl hb6703) <| DK.cons rfl rfl (.off rfl rfl rfl hb6703) <| DK.cons rfl rfl (.off rfl rfl rfl hb6703) <| DK.cons rfl rfl (.off rfl rfl rfl hb6703) <| DK.cons rfl rfl (.off rfl rfl rfl hb6703) <| DK.cons rfl rfl (.p rfl (.s 82 rfl (.k .nil)) rfl (q_pickT rfl hb6703)) <| DK.cons rfl rfl (.p rfl (.s 101 rfl .nil) rfl (q_move rfl)) <| DK.cons rfl rfl (.off rfl rfl rfl rfl) <| DK.cons rfl rfl (.off rfl rfl rfl rfl) <| DK.cons rfl rfl (.off rfl rfl rfl rfl) <| DK.cons rfl rfl (.off rfl rfl rfl rfl) <| DK.cons rfl rfl (.off rfl rfl rfl rfl) <| DK.cons rfl rfl (.und rfl rfl rfl) ?_
         refine DK.cons rfl rfl (.und rfl rfl rfl) <| DK.cons rfl rfl (.und rfl rfl rfl) <| DK.cons rfl rfl (.und rfl rfl rfl) <| DK.cons rfl rfl (.und rfl rfl rfl) <| DK.cons rfl rfl (.und rfl rfl rfl) <| DK.cons rfl rfl (.off rfl rfl rfl rfl) <| DK.cons rfl rfl (.p rfl (.s 102 rfl (.k .nil)) rfl (q_pickT rfl rfl)) <| DK.nil <| CSteps.nil ?_
         exact QN.weaken (.one rfl (.one rfl (.one rfl (.one rfl (.one rfl (.one rfl (.one rfl (.nil _)))))))) (Kj6675 () true h)
        ·refine DK.cons rfl rfl (.gp rfl rfl rfl hb6703 (.s 0 rfl .nil) rfl (q_move rfl)) <| DK.cons rfl rfl (.gp rfl rfl rfl hb6703 (.s 83 rfl .nil) rfl (q_nilCheckP rfl)) <| DK.cons rfl rfl (.gp rfl rfl rfl hb6703 (.s 84 rfl .nil) rfl (q_fieldP rfl fo108_2)) <| DK.cons rfl rfl (.go rfl rfl rfl hb6703 (.s 85 rfl .nil) rfl (q_loadB rfl sh101 (i := 0) rfl rfl)) <| DK.cons rfl rfl (.gp rfl rfl rfl hb6703 (.s 0 rfl .nil) rfl (q_move rfl)) <| DK.cons rfl rfl (.gp rfl rfl rfl hb6703 (.s 87 rfl .nil) rfl (q_nilCheckP rfl)) <| DK.cons rfl rfl (.gp rfl rfl rfl hb6703 (.s 88 rfl .nil) rfl (q_fieldP rfl fo108_0)) <| DK.cons rfl rfl (.gp rfl rfl rfl hb6703 (.s 89 rfl .nil) rfl (q_fieldP rfl fo29_0)) <| DK.cons rfl rfl (.go rfl rfl rfl hb6703 (.s 90 rfl .nil) rfl (q_loadB rfl sh26 (i := 0) rfl rfl)) <| DK.cons rfl rfl (.gp rfl rfl rfl hb6703 (.s 2 rfl .nil) rfl (q_move rfl)) ?_
         obtain ⟨c6704, h⟩ := ite_n h
         refine DK.cons rfl rfl (.gp rfl rfl rfl hb6703 (.s 91 rfl (.s 92 rfl .nil)) rfl (q_index rfl el26 rfl c6704.1 c6704.2)) <| DK.cons rfl rfl (.gp rfl rfl rfl hb6703 (.s 93 rfl .nil) rfl (q_load rfl sh3)) ?_
         obtain ⟨c6705, h⟩ := ite_n h
         refine DK.cons rfl rfl (.gp rfl rfl rfl hb6703 (.s 86 rfl (.s 94 rfl .nil)) rfl (q_index rfl el101 rfl c6705.1 c6705.2)) <| DK.cons rfl rfl (.gp rfl rfl rfl hb6703 (.s 95 rfl .nil) rfl (q_load rfl sh103)) <| DK.cons rfl rfl (.gp rfl rfl rfl hb6703 (.s 4 rfl .nil) rfl (q_move rfl)) ?_
         obtain ⟨c6706, h⟩ := ite_n h
         refine DK.cons rfl rfl (.gp rfl rfl rfl hb6703 (.s 96 rfl (.s 97 rfl .nil)) rfl (q_index rfl el103 rfl c6706.1 c6706.2)) <| DK.cons rfl rfl (.gp rfl rfl rfl hb6703 (.s 98 rfl .nil) rfl (q_load rfl sh4)) <| DK.cons rfl rfl (.gp rfl rfl rfl hb6703 (.s 99 rfl .nil) rfl (q_not rfl)) <| DK.cons rfl rfl (.p rfl (.s 82 rfl (.s 100 rfl .nil)) rfl (q_pickF rfl hb6703)) <| DK.cons rfl rfl (.p rfl (.s 101 rfl .nil) rfl (q_move rfl)) ?_
         rcases bif_s h with ⟨hb6707, h⟩ | ⟨hb6707, h⟩
         ·refine DK.cons rfl rfl (.off rfl rfl rfl hb6707) <| DK.cons rfl rfl (.off rfl rfl rfl hb6707) <| DK.cons rfl rfl (.off rfl rfl rfl hb6707) <| DK.cons rfl rfl (.off rfl rfl rfl hb6707) <| DK.cons rfl rfl (.off rfl rfl rfl hb6707) <| DK.cons rfl rfl (.und rfl rfl rfl) <| DK.cons rfl rfl (.und rfl rfl rfl) <| DK.cons rfl rfl (.und rfl rfl rfl) <| DK.cons rfl rfl (.und rfl rfl rfl) <| DK.cons rfl rfl (.und rfl rfl rfl) <| DK.cons rfl rfl (.und rfl rfl rfl) <| DK.cons rfl rfl (.off rfl rfl rfl hb6707) <| DK.cons rfl rfl (.p rfl (.s 102 rfl (.k .nil)) rfl (q_pickT rfl hb6707)) ?_
          refine DK.nil <| CSteps.nil ?_
          exact QN.weaken (.one rfl (.one rfl (.one rfl (.one rfl (.one rfl (.one rfl (.one rfl (.nil _)))))))) (Kj6675 () true h)
         ·refine DK.cons rfl rfl (.gp rfl rfl rfl hb6707 (.s 0 rfl .nil) rfl (q_move rfl)) <| DK.cons rfl rfl (.gp rfl rfl rfl hb6707 (.s 103 rfl .nil) rfl (q_nilCheckP rfl)) <| DK.cons rfl rfl (.gp rfl rfl rfl hb6707 (.s 104 rfl .nil) rfl (q_fieldP rfl fo108_4)) <| DK.cons rfl rfl (.go rfl rfl rfl hb6707 (.s 105 rfl .nil) rfl (q_loadB rfl sh4 (i := 0) rfl rfl)) <| DK.cons rfl rfl (.gp rfl rfl rfl hb6707 (.s 106 rfl .nil) rfl (q_move rfl)) ?_
          rcases bif_s h with ⟨hb6708, h⟩ | ⟨hb6708, h⟩
          ·refine DK.cons rfl rfl (.gp rfl rfl rfl hb6708 (.s 0 rfl .nil) rfl (q_move rfl)) <| DK.cons rfl rfl (.gp rfl rfl rfl hb6708 (.s 108 rfl .nil) rfl (q_nilCheckP rfl)) <| DK.cons rfl rfl (.gp rfl rfl rfl hb6708 (.s 109 rfl .nil) rfl (q_fieldP rfl fo108_6)) <| DK.cons rfl rfl (.go rfl rfl rfl hb6708 (.s 110 rfl .nil) rfl (q_loadB rfl sh26 (i := 0) rfl rfl)) <| DK.cons rfl rfl (.gp rfl rfl rfl hb6708 (.s 3 rfl .nil) rfl (q_move rfl)) ?_
           obtain ⟨t6709, ht6709, h⟩ := bind_s h
           refine DK.cons rfl rfl (.go rfl rfl rfl hb6708 (.s 111 rfl (.s 112 rfl .nil)) rfl (q_lend (f := 87) (A := EqA (.bool t6709)) (xs := [.tmp 111, .tmp 112]) («as» := [HdA g0.1, EqA (.int .i64 x63)]) rfl ca87 (slices_Contains_int.con k y9 x63 t6709 ht6709) rfl (.cons (.slc 1 rfl) (.cons (.id _) .nil)) (Flat.eq _))) <| DK.cons rfl rfl (.gp rfl rfl rfl hb6707 (.s 107 rfl (.s 113 rfl .nil)) rfl (q_pickT rfl hb6708)) <| DK.cons rfl rfl (.p rfl (.s 102 rfl (.s 114 rfl .nil)) rfl (q_pickF rfl hb6707)) <| DK.nil <| CSteps.nil ?_
           exact QN.weaken (.one rfl (.one rfl (.one rfl (.one rfl (.one rfl (.one rfl (.one rfl (.nil _)))))))) (Kj6675 () t6709 h)
          ·refine DK.cons rfl rfl (.off rfl rfl rfl hb6708) <| DK.cons rfl rfl (.off rfl rfl rfl hb6708) <| DK.cons rfl rfl (.off rfl rfl rfl hb6708) <| DK.cons rfl rfl (.off rfl rfl rfl hb6708) <| DK.cons rfl rfl (.off rfl rfl rfl hb6708) <| DK.cons rfl rfl (.off rfl rfl rfl hb6708) <| DK.cons rfl rfl (.gp rfl rfl rfl hb6707 (.s 107 rfl (.k .nil)) rfl (q_pickF rfl hb6708)) <| DK.cons rfl rfl (.p rfl (.s 102 rfl (.s 114 rfl .nil)) rfl (q_pickF rfl hb6707)) <| DK.nil <| CSteps.nil ?_
           exact QN.weaken (.one rfl (.one rfl (.one rfl (.one rfl (.one rfl (.one rfl (.one rfl (.nil _)))))))) (Kj6675 () false h)
       ·refine DK.cons rfl rfl (.off rfl rfl rfl hb6702) <| DK.cons rfl rfl (.off rfl rfl rfl hb6702) <| DK.cons rfl rfl (.off rfl rfl rfl hb6702) <| DK.cons rfl rfl (.p rfl (.s 77 rfl (.k .nil)) rfl (q_pickF rfl hb6702)) <| DK.cons rfl rfl (.p rfl (.s 81 rfl .nil) rfl (q_move rfl)) <| DK.cons rfl rfl (.gp rfl rfl rfl rfl (.s 0 rfl .nil) rfl (q_move rfl)) <| DK.cons rfl rfl (.gp rfl rfl rfl rfl (.s 83 rfl .nil) rfl (q_nilCheckP rfl)) <| DK.cons rfl rfl (.gp rfl rfl rfl rfl (.s 84 rfl .nil) rfl (q_fieldP rfl fo108_2)) <| DK.cons rfl rfl (.go rfl rfl rfl rfl (.s 85 rfl .nil) rfl (q_loadB rfl sh101 (i := 0) rfl rfl)) <| DK.cons rfl rfl (.gp rfl rfl rfl rfl (.s 0 rfl .nil) rfl (q_move rfl)) <| DK.cons rfl rfl (.gp rfl rfl rfl rfl (.s 87 rfl .nil) rfl (q_nilCheckP rfl)) <| DK.cons rfl rfl (.gp rfl rfl rfl rfl (.s 88 rfl .nil) rfl (q_fieldP rfl fo108_0)) <| DK.cons rfl rfl (.gp rfl rfl rfl rfl (.s 89 rfl .nil) rfl (q_fieldP rfl fo29_0)) ?_
        refine DK.cons rfl rfl (.go rfl rfl rfl rfl (.s 90 rfl .nil) rfl (q_loadB rfl sh26 (i := 0) rfl rfl)) <| DK.cons rfl rfl (.gp rfl rfl rfl rfl (.s 2 rfl .nil) rfl (q_move rfl)) ?_
        obtain ⟨c6710, h⟩ := ite_n h
        refine DK.cons rfl rfl (.gp rfl rfl rfl rfl (.s 91 rfl (.s 92 rfl .nil)) rfl (q_index rfl el26 rfl c6710.1 c6710.2)) <| DK.cons rfl rfl (.gp rfl rfl rfl rfl (.s 93 rfl .nil) rfl (q_load rfl sh3)) ?_
        obtain ⟨c6711, h⟩ := ite_n h
        refine DK.cons rfl rfl (.gp rfl rfl rfl rfl (.s 86 rfl (.s 94 rfl .nil)) rfl (q_index rfl el101 rfl c6711.1 c6711.2)) <| DK.cons rfl rfl (.gp rfl rfl rfl rfl (.s 95 rfl .nil) rfl (q_load rfl sh103)) <| DK.cons rfl rfl (.gp rfl rfl rfl rfl (.s 4 rfl .nil) rfl (q_move rfl)) ?_
        obtain ⟨c6712, h⟩ := ite_n h
        refine DK.cons rfl rfl (.gp rfl rfl rfl rfl (.s 96 rfl (.s 97 rfl .nil)) rfl (q_index rfl el103 rfl c6712.1 c6712.2)) <| DK.cons rfl rfl (.gp rfl rfl rfl rfl (.s 98 rfl .nil) rfl (q_load rfl sh4)) <| DK.cons rfl rfl (.gp rfl rfl rfl rfl (.s 99 rfl .nil) rfl (q_not rfl)) <| DK.cons rfl rfl (.p rfl (.s 82 rfl (.s 100 rfl .nil)) rfl (q_pickF rfl rfl)) <| DK.cons rfl rfl (.p rfl (.s 101 rfl .nil) rfl (q_move rfl)) ?_
        rcases bif_s h with ⟨hb6713, h⟩ | ⟨hb6713, h⟩
        ·refine DK.cons rfl rfl (.off rfl rfl rfl hb6713) <| DK.cons rfl rfl (.off rfl rfl rfl hb6713) <| DK.cons rfl rfl (.off rfl rfl rfl hb6713) <| DK.cons rfl rfl (.off rfl rfl rfl hb6713) <| DK.cons rfl rfl (.off rfl rfl rfl hb6713) <| DK.cons rfl rfl (.und rfl rfl rfl) <| DK.cons rfl rfl (.und rfl rfl rfl) <| DK.cons rfl rfl (.und rfl rfl rfl) <| DK.cons rfl rfl (.und rfl rfl rfl) <| DK.cons rfl rfl (.und rfl rfl rfl) <| DK.cons rfl rfl (.und rfl rfl rfl) <| DK.cons rfl rfl (.off rfl rfl rfl hb6713) <| DK.cons rfl rfl (.p rfl (.s 102 rfl (.k .nil)) rfl (q_pickT rfl hb6713)) ?_
         refine DK.nil <| CSteps.nil ?_
         exact QN.weaken (.one rfl (.one rfl (.one rfl (.one rfl (.one rfl (.one rfl (.one rfl (.nil _)))))))) (Kj6675 () true h)
        ·refine DK.cons rfl rfl (.gp rfl rfl rfl hb6713 (.s 0 rfl .nil) rfl (q_move rfl)) <| DK.cons rfl rfl (.gp rfl rfl rfl hb6713 (.s 103 rfl .nil) rfl (q_nilCheckP rfl)) <| DK.cons rfl rfl (.gp rfl rfl rfl hb6713 (.s 104 rfl .nil) rfl (q_fieldP rfl fo108_4)) <| DK.cons rfl rfl (.go rfl rfl rfl hb6713 (.s 105 rfl .nil) rfl (q_loadB rfl sh4 (i := 0) rfl rfl)) <| DK.cons rfl rfl (.gp rfl rfl rfl hb6713 (.s 106 rfl .nil) rfl (q_move rfl)) ?_
         rcases bif_s h with ⟨hb6714, h⟩ | ⟨hb6714, h⟩
         ·refine DK.cons rfl rfl (.gp rfl rfl rfl hb6714 (.s 0 rfl .nil) rfl (q_move rfl)) <| DK.cons rfl rfl (.gp rfl rfl rfl hb6714 (.s 108 rfl .nil) rfl (q_nilCheckP rfl)) <| DK.cons rfl rfl (.gp rfl rfl rfl hb6714 (.s 109 rfl .nil) rfl (q_fieldP rfl fo108_6)) <| DK.cons rfl rfl (.go rfl rfl rfl hb6714 (.s 110 rfl .nil) rfl (q_loadB rfl sh26 (i := 0) rfl rfl)) <| DK.cons rfl rfl (.gp rfl rfl rfl hb6714 (.s 3 rfl .nil) rfl (q_move rfl)) ?_
          obtain ⟨t6715, ht6715, h⟩ := bind_s h
          refine DK.cons rfl rfl (.go rfl rfl rfl hb6714 (.s 111 rfl (.s 112 rfl .nil)) rfl (q_lend (f := 87) (A := EqA (.bool t6715)) (xs := [.tmp 111, .tmp 112]) («as» := [HdA g0.1, EqA (.int .i64 x63)]) rfl ca87 (slices_Contains_int.con k y9 x63 t6715 ht6715) rfl (.cons (.slc 1 rfl) (.cons (.id _) .nil)) (Flat.eq _))) <| DK.cons rfl rfl (.gp rfl rfl rfl hb6713 (.s 107 rfl (.s 113 rfl .nil)) rfl (q_pickT rfl hb6714)) <| DK.cons rfl rfl (.p rfl (.s 102 rfl (.s 114 rfl .nil)) rfl (q_pickF rfl hb6713)) <| DK.nil <| CSteps.nil ?_
          exact QN.weaken (.one rfl (.one rfl (.one rfl (.one rfl (.one rfl (.one rfl (.one rfl (.nil _)))))))) (Kj6675 () t6715 h)
         ·refine DK.cons rfl rfl (.off rfl rfl rfl hb6714) <| DK.cons rfl rfl (.off rfl rfl rfl hb6714) <| DK.cons rfl rfl (.off rfl rfl rfl hb6714) <| DK.cons rfl rfl (.off rfl rfl rfl hb6714) <| DK.cons rfl rfl (.off rfl rfl rfl hb6714) <| DK.cons rfl rfl (.off rfl rfl rfl hb6714) <| DK.cons rfl rfl (.gp rfl rfl rfl hb6713 (.s 107 rfl (.k .nil)) rfl (q_pickF rfl hb6714)) <| DK.cons rfl rfl (.p rfl (.s 102 rfl (.s 114 rfl .nil)) rfl (q_pickF rfl hb6713)) <| DK.nil <| CSteps.nil ?_
          exact QN.weaken (.one rfl (.one rfl (.one rfl (.one rfl (.one rfl (.one rfl (.one rfl (.nil _)))))))) (Kj6675 () false h)
     ·refine W.exit <| QX.then_ <| QX.then_ <| QX.here ?_
      exact QN.weaken (.one rfl (.nil _)) (Kj6273 (g0.1, g0.2.1, g0.2.2) y9 y10 y11 h)
    ·refine W.seq <| W.drawK [(0, false), (1, false), (2, false), (3, true), (4, true), (5, false), (6, false), (7, false), (8, false), (9, true), (10, false), (11, false), (12, false)] [] [[], [0], [0, 1], [0, 1, 2], [0, 1, 2, 3], [], [5], [5, 6], [5, 6, 7], [5, 6, 7, 8], [5, 6, 7, 8, 9], [0, 1, 2, 3, 4, 5, 6, 7, 8, 9, 10], [0, 1, 2, 3, 4, 5, 6, 7, 8, 9, 10, 11]] mx (by kernel_rfl) <| DK.cons rfl rfl (.p rfl (.s 0 rfl .nil) rfl (q_move rfl)) <| DK.cons rfl rfl (.p rfl (.s 141 rfl .nil) rfl (q_nilCheckP rfl)) <| DK.cons rfl rfl (.p rfl (.s 142 rfl .nil) rfl (q_fieldP rfl fo108_7)) <| DK.cons rfl rfl (.o rfl (.s 143 rfl .nil) rfl (q_loadB rfl sh26 (i := 0) rfl rfl)) <| DK.cons rfl rfl (.o rfl (.s 144 rfl .nil) rfl (q_lenO rfl elS26 (i := 2) rfl)) <| DK.cons rfl rfl (.p rfl (.s 0 rfl .nil) rfl (q_move rfl)) <| DK.cons rfl rfl (.p rfl (.s 146 rfl .nil) rfl (q_nilCheckP rfl)) <| DK.cons rfl rfl (.p rfl (.s 147 rfl .nil) rfl (q_fieldP rfl fo108_0)) <| DK.cons rfl rfl (.p rfl (.s 148 rfl .nil) rfl (q_fieldP rfl fo29_1)) <| DK.cons rfl rfl (.o rfl (.s 149 rfl .nil) rfl (q_loadB rfl sh27 (i := 0) rfl rfl)) <| DK.cons rfl rfl (.p rfl (.s 150 rfl .nil) rfl (q_len rfl elS27)) ?_
     refine DK.cons rfl rfl (.p rfl (.s 145 rfl (.s 151 rfl .nil)) rfl (q_int rfl rfl)) <| DK.cons rfl rfl (.p rfl (.s 152 rfl .nil) rfl (q_assign rfl)) <| DK.nil <| CSteps.nil <| QN.weaken (env' := [(140, _), (0, _)]) (.one rfl (.one rfl (.nil _))) <| QN.then_ ?_
     refine W.condP h rfl (fun hb6864 h => ?_) (fun hb6864 h => ?_)
     ·refine W.seq <| W.region <| WL.p rfl rfl rfl (.s 0 rfl .nil) (q_move rfl) <| WL.p rfl rfl rfl (.s 153 rfl .nil) (q_nilCheckP rfl) <| WL.p rfl rfl rfl (.s 154 rfl .nil) (q_fieldP rfl fo108_7) <| WL.q (Wanted.plain rfl) rfl rfl (.s 155 rfl .nil) (q_loadB rfl sh26 (i := 0) rfl rfl) <| WL.q (Wanted.plain rfl) rfl rfl (.s 156 rfl .nil) (q_lenO rfl elS26 (i := 2) rfl) <| WL.p rfl rfl rfl (.s 157 rfl .nil) (q_assign rfl) <| WL.nil <| QN.then_ <| W.seq <| W.region <| WL.p rfl rfl rfl (.s 0 rfl .nil) (q_move rfl) ?_
      refine WL.p rfl rfl rfl (.s 158 rfl .nil) (q_nilCheckP rfl) <| WL.p rfl rfl rfl (.s 159 rfl .nil) (q_fieldP rfl fo108_1) <| WL.p rfl rfl rfl (.s 160 rfl .nil) (q_fieldP rfl fo29_1) <| WL.q (Wanted.plain rfl) rfl rfl (.s 161 rfl .nil) (q_loadB rfl sh27 (i := 0) rfl rfl) <| WL.p rfl rfl rfl (.s 162 rfl .nil) (q_len rfl elS27) <| WL.p rfl rfl rfl (.k .nil) (q_move rfl) <| WL.nil <| QN.weaken (env' := [(164, _), (163, _), (6, _), (0, _)]) (.one rfl (.one rfl (.one rfl (.one rfl (.nil _))))) <| QN.then_ <| W.block ?_
      refine W.loop4 (Γ := (Value × Value × Value)) (fun (_ : (Value × Value × Value)) (_ : (List Int)) (_ : (List Int)) (_ : (List Morphism)) (x164 : Int) => [(0, EqA (.pointer (some ⟨b, 0, none⟩))), (6, EqA (.int .i64 (a0.fedges.length : Int))), (163, EqA (.int .i64 (a0.fg.fEdges.length : Int))), (164, EqA (.int .i64 x164))]) (fun (g1 : (Value × Value × Value)) (y9 : (List Int)) (y10 : (List Int)) (y11 : (List Morphism)) (_ : Int) => [BoxE b [SlcA kInt a0.fp.fNodes, SlcA kEdge a0.fp.fEdges, SlcA kInt a0.fg.fNodes, SlcA kEdge a0.fg.fEdges, SlcA (kSl kBool) a0.fis, OptA kInt a0.fpartial.fNodes, OptA kInt a0.fpartial.fEdges, EqA (.bool a0.finjective), EqA (.int .i64 a0.fmost), HdA g1.1, HdA g1.2.1, HdA g1.2.2], SlE 3 g1.1 kInt y9, SlE 3 g1.2.1 kInt y10, SlE 33 g1.2.2 kMorphism y11]) h (w0, w1, w2) (.one rfl (.one rfl (.one rfl (.one rfl (.nil _))))) rfl (fun rec1 K1 next1 g1 y9 y10 y11 x164 h => ?_)
      unfold search_finder_find.b1 at h
      refine W.seq <| W.region <| WL.p rfl rfl rfl (.s 164 rfl (.s 163 rfl .nil)) (q_int rfl rfl) <| WL.nil <| QN.then_ <| W.seq ?_
      refine W.condP h rfl (fun hb6959 h => ?_) (fun hb6959 h => ?_)
      ·refine W.skip <| QN.then_ <| W.seq <| W.block <| W.seq <| W.region <| WL.p rfl rfl rfl (.s 164 rfl .nil) (q_move rfl) <| WL.p rfl rfl rfl (.s 166 rfl .nil) (q_assign rfl) <| WL.nil <| QN.then_ <| W.seq <| W.seq ?_
       refine W.jn1 (Γ := Unit) (fun (_ : Unit) (x185 : Bool) => [(0, EqA (.pointer (some ⟨b, 0, none⟩))), (6, EqA (.int .i64 (a0.fedges.length : Int))), (163, EqA (.int .i64 (a0.fg.fEdges.length : Int))), (164, EqA (.int .i64 x164)), (7, EqA (.int .i64 x164)), (185, EqA (.bool x185))]) (fun (_ : Unit) (_ : Bool) => [BoxE b [SlcA kInt a0.fp.fNodes, SlcA kEdge a0.fp.fEdges, SlcA kInt a0.fg.fNodes, SlcA kEdge a0.fg.fEdges, SlcA (kSl kBool) a0.fis, OptA kInt a0.fpartial.fNodes, OptA kInt a0.fpartial.fEdges, EqA (.bool a0.finjective), EqA (.int .i64 a0.fmost), HdA g1.1, HdA g1.2.1, HdA g1.2.2], SlE 3 g1.1 kInt y9, SlE 3 g1.2.1 kInt y10, SlE 33 g1.2.2 kMorphism y11]) h (fun _ x185 h => ?_) (fun j6984 Kj6984 h => ?_)
       ·refine QN.then_ ?_
        refine W.condP h rfl (fun hb6985 h => ?_) (fun hb6985 h => ?_)
        ·refine W.exit <| QX.then_ <| QX.here <| QN.then_ <| W.region ?_
         obtain ⟨c6986, h⟩ := ite_n h
         refine WL.p rfl rfl rfl (.s 164 rfl (.k .nil)) (q_addR rfl c6986) <| WL.p rfl rfl rfl (.s 207 rfl .nil) (q_move rfl) <| WL.nil ?_
         exact next1 (g1.1, g1.2.1, g1.2.2) y9 y10 y11 (x164 + 1) _ h (.one rfl (.one rfl (.one rfl (.one rfl (.nil _)))))
        ·refine W.skip <| QN.then_ <| W.seq <| W.region <| WL.p rfl rfl rfl (.s 0 rfl .nil) (q_move rfl) <| WL.p rfl rfl rfl (.s 0 rfl .nil) (q_move rfl) <| WL.p rfl rfl rfl (.s 187 rfl .nil) (q_nilCheckP rfl) <| WL.p rfl rfl rfl (.s 188 rfl .nil) (q_fieldP rfl fo108_7) <| WL.q (Wanted.plain rfl) rfl rfl (.s 189 rfl .nil) (q_loadB rfl sh26 (i := 0) rfl rfl) <| WL.p rfl rfl rfl (.s 7 rfl .nil) (q_move rfl) <| WL.p rfl rfl rfl (.s 191 rfl .nil) (q_lit (kd := kInt) (ps := [(0, .tmp 191)]) (xs := [.tmp 191]) («as» := [EqA (.int .i64 x164)]) (ys := [x164]) rfl rfl el26 rfl gr3 rfl rfl rfl (.cons (CellsOf.one rfl) .nil)) ?_
         obtain ⟨c6987, h⟩ := ite_n h
         refine WL.w [2] rfl (Wanted.plain rfl) rfl rfl (.s 190 rfl (.s 192 rfl .nil)) (w_append (kd := kInt) rfl el26 rfl gr3 c6987) ?_
         rintro _ _ ⟨v6988, rfl, rfl⟩
         refine WL.p rfl rfl rfl (.s 186 rfl .nil) (q_nilCheckP rfl) <| WL.p rfl rfl rfl (.s 194 rfl .nil) (q_fieldP rfl fo108_7) <| WL.w0 [1] rfl (Wanted.plain rfl) rfl (.s 195 rfl (.s 193 rfl .nil)) (w_store (L := [SlcA kInt a0.fp.fNodes, SlcA kEdge a0.fp.fEdges, SlcA kInt a0.fg.fNodes, SlcA kEdge a0.fg.fEdges, SlcA (kSl kBool) a0.fis, OptA kInt a0.fpartial.fNodes, OptA kInt a0.fpartial.fEdges, EqA (.bool a0.finjective), EqA (.int .i64 a0.fmost), HdA g1.1, HdA v6988, HdA g1.2.2]) rfl sh26 (CellsOf.one rfl) rfl rfl (leB rfl) rfl) ?_
         rintro _ _ ⟨rfl, rfl⟩
         refine WL.nil <| QN.weaken (env' := [(164, _), (163, _), (6, _), (0, _)]) (.one rfl (.one rfl (.one rfl (.one rfl (.nil _))))) <| QN.then_ <| W.seq <| W.region <| WL.p rfl rfl rfl (.s 0 rfl .nil) (q_move rfl) ?_
         obtain ⟨t6989, ht6989, h⟩ := bind_s h
         refine WL.w [0, 1, 0, 0] rfl (Wanted.plain rfl) rfl rfl (.s 196 rfl .nil) (w_callI (f := 63) (xs := [.tmp 196]) («as» := [EqA (.pointer (some ⟨b, 0, none⟩))]) rfl ca63 (ih b g1.1 v6988 g1.2.2 (Finder.mk a0.fp a0.fg a0.fis a0.fpartial a0.finjective a0.fmost y9 (y10 ++ [x164]) y11) t6989 ht6989) rfl (.cons (Imp.id _) .nil)) ?_
         rintro _ _ ⟨v6990, v6991, v6992, rfl, rfl⟩
         refine WL.nil <| QN.then_ <| W.region <| WL.p rfl rfl rfl (.s 0 rfl .nil) (q_move rfl) <| WL.p rfl rfl rfl (.s 0 rfl .nil) (q_move rfl) <| WL.p rfl rfl rfl (.s 199 rfl .nil) (q_nilCheckP rfl) <| WL.p rfl rfl rfl (.s 200 rfl .nil) (q_fieldP rfl fo108_7) <| WL.q (Wanted.plain rfl) rfl rfl (.s 201 rfl .nil) (q_loadB rfl sh26 (i := 0) rfl rfl) <| WL.p rfl rfl rfl (.s 6 rfl .nil) (q_move rfl) ?_
         obtain ⟨c6993, h⟩ := ite_n h
         refine WL.w [2] rfl (Wanted.plain rfl) rfl rfl (.s 202 rfl (.s 203 rfl .nil)) (w_sub rfl el26 rfl c6993.1 c6993.2) ?_
         rintro _ _ ⟨v6994, rfl, rfl⟩
         refine WL.p rfl rfl rfl (.s 198 rfl .nil) (q_nilCheckP rfl) <| WL.p rfl rfl rfl (.s 205 rfl .nil) (q_fieldP rfl fo108_7) <| WL.w0 [1] rfl (Wanted.plain rfl) rfl (.s 206 rfl (.s 204 rfl .nil)) (w_store (L := [SlcA kInt a0.fp.fNodes, SlcA kEdge a0.fp.fEdges, SlcA kInt a0.fg.fNodes, SlcA kEdge a0.fg.fEdges, SlcA (kSl kBool) a0.fis, OptA kInt a0.fpartial.fNodes, OptA kInt a0.fpartial.fEdges, EqA (.bool a0.finjective), EqA (.int .i64 a0.fmost), HdA v6990, HdA v6994, HdA v6992]) rfl sh26 (CellsOf.one rfl) rfl rfl (leB rfl) rfl) ?_
         rintro _ _ ⟨rfl, rfl⟩
         refine WL.nil <| QN.block <| QN.weaken (env' := [(164, _), (163, _), (6, _), (0, _)]) (.one rfl (.one rfl (.one rfl (.one rfl (.nil _))))) <| QN.then_ <| W.region ?_
         obtain ⟨c6995, h⟩ := ite_n h
         refine WL.p rfl rfl rfl (.s 164 rfl (.k .nil)) (q_addR rfl c6995) <| WL.p rfl rfl rfl (.s 207 rfl .nil) (q_move rfl) <| WL.nil <| QN.order [0, 1, 0, 0] rfl ?_
         exact next1 (v6990, v6994, v6992) t6989.1 (t6989.2.1.take ((a0.fedges.length : Int) : Int).toNat) t6989.2.2 (x164 + 1) _ h (.one rfl (.one rfl (.one rfl (.one rfl (.nil _)))))
       ·refine W.region <| WL.p rfl rfl rfl (.s 0 rfl .nil) (q_move rfl) <| WL.p rfl rfl rfl (.s 6 rfl .nil) (q_move rfl) <| WL.p rfl rfl rfl (.s 7 rfl .nil) (q_move rfl) ?_
        obtain ⟨t6996, ht6996, h⟩ := bind_s h
        refine WL.q (Wanted.plain rfl) rfl rfl (.s 167 rfl (.s 168 rfl (.s 169 rfl .nil))) (q_lend (f := 89) (A := EqA (.bool t6996)) (xs := [.tmp 167, .tmp 168, .tmp 169]) («as» := [EqA (.pointer (some ⟨b, 0, none⟩)), EqA (.int .i64 (a0.fedges.length : Int)), EqA (.int .i64 x164)]) rfl ca89 (search_finder_fits.con k (Finder.mk a0.fp a0.fg a0.fis a0.fpartial a0.finjective a0.fmost y9 y10 y11) (a0.fedges.length : Int) x164 t6996 ht6996) rfl (.cons (.box 0 rfl (.cons (.id _) (.cons (.id _) (.cons (.id _) (.cons (.id _) (.cons (.id _) (.cons (.id _) (.cons (.id _) (.cons (.id _) (.cons (.id _) (.cons (.slc 1 rfl) (.cons (.slc 2 rfl) (.cons (.slc 3 rfl) .nil))))))))))))) (.cons (.id _) (.cons (.id _) .nil))) (Flat.eq _)) <| WL.p rfl rfl rfl (.s 170 rfl .nil) (q_not rfl) <| WL.p rfl rfl rfl (.s 171 rfl .nil) (q_move rfl) ?_
        rcases bif_s h with ⟨hb6997, h⟩ | ⟨hb6997, h⟩
        ·refine WL.skip (Unwanted.on rfl rfl rfl hb6997) rfl rfl <| WL.skip (Unwanted.on rfl rfl rfl hb6997) rfl rfl <| WL.skip (Unwanted.on rfl rfl rfl hb6997) rfl rfl <| WL.skip (Unwanted.on rfl rfl rfl hb6997) rfl rfl <| WL.skip (Unwanted.on rfl rfl rfl hb6997) rfl rfl <| WL.skip (Unwanted.und rfl rfl rfl) rfl rfl <| WL.skip (Unwanted.und rfl rfl rfl) rfl rfl <| WL.skip (Unwanted.und rfl rfl rfl) rfl rfl <| WL.skip (Unwanted.und rfl rfl rfl) rfl rfl <| WL.skip (Unwanted.und rfl rfl rfl) rfl rfl <| WL.skip (Unwanted.und rfl rfl rfl) rfl rfl <| WL.skip (Unwanted.on rfl rfl rfl hb6997) rfl rfl <| WL.p rfl rfl rfl (.s 172 rfl (.k .nil)) (q_pickT rfl hb6997) ?_
         refine WL.nil ?_
         exact QN.weaken (.one rfl (.one rfl (.one rfl (.one rfl (.one rfl (.one rfl (.nil _))))))) (Kj6984 () true h)
        ·refine WL.q (Wanted.on rfl rfl rfl hb6997) rfl rfl (.s 0 rfl .nil) (q_move rfl).o <| WL.q (Wanted.on rfl rfl rfl hb6997) rfl rfl (.s 173 rfl .nil) (q_nilCheckP rfl).o <| WL.q (Wanted.on rfl rfl rfl hb6997) rfl rfl (.s 174 rfl .nil) (q_fieldP rfl fo108_4).o <| WL.q (Wanted.on rfl rfl rfl hb6997) rfl rfl (.s 175 rfl .nil) (q_loadB rfl sh4 (i := 0) rfl rfl) <| WL.q (Wanted.on rfl rfl rfl hb6997) rfl rfl (.s 176 rfl .nil) (q_move rfl).o ?_
         rcases bif_s h with ⟨hb6998, h⟩ | ⟨hb6998, h⟩
         ·refine WL.q (Wanted.on rfl rfl rfl hb6998) rfl rfl (.s 0 rfl .nil) (q_move rfl).o <| WL.q (Wanted.on rfl rfl rfl hb6998) rfl rfl (.s 178 rfl .nil) (q_nilCheckP rfl).o <| WL.q (Wanted.on rfl rfl rfl hb6998) rfl rfl (.s 179 rfl .nil) (q_fieldP rfl fo108_7).o <| WL.q (Wanted.on rfl rfl rfl hb6998) rfl rfl (.s 180 rfl .nil) (q_loadB rfl sh26 (i := 0) rfl rfl) <| WL.q (Wanted.on rfl rfl rfl hb6998) rfl rfl (.s 7 rfl .nil) (q_move rfl).o ?_
          obtain ⟨t6999, ht6999, h⟩ := bind_s h
          refine WL.q (Wanted.on rfl rfl rfl hb6998) rfl rfl (.s 181 rfl (.s 182 rfl .nil)) (q_lend (f := 87) (A := EqA (.bool t6999)) (xs := [.tmp 181, .tmp 182]) («as» := [HdA g1.2.1, EqA (.int .i64 x164)]) rfl ca87 (slices_Contains_int.con k y10 x164 t6999 ht6999) rfl (.cons (.slc 2 rfl) (.cons (.id _) .nil)) (Flat.eq _)) <| WL.q (Wanted.on rfl rfl rfl hb6997) rfl rfl (.s 177 rfl (.s 183 rfl .nil)) (q_pickT rfl hb6998).o <| WL.p rfl rfl rfl (.s 172 rfl (.s 184 rfl .nil)) (q_pickF rfl hb6997) <| WL.nil ?_
          exact QN.weaken (.one rfl (.one rfl (.one rfl (.one rfl (.one rfl (.one rfl (.nil _))))))) (Kj6984 () t6999 h)
         ·refine WL.skip (Unwanted.on rfl rfl rfl hb6998) rfl rfl <| WL.skip (Unwanted.on rfl rfl rfl hb6998) rfl rfl <| WL.skip (Unwanted.on rfl rfl rfl hb6998) rfl rfl <| WL.skip (Unwanted.on rfl rfl rfl hb6998) rfl rfl <| WL.skip (Unwanted.on rfl rfl rfl hb6998) rfl rfl <| WL.skip (Unwanted.on rfl rfl rfl hb6998) rfl rfl <| WL.q (Wanted.on rfl rfl rfl hb6997) rfl rfl (.s 177 rfl (.k .nil)) (q_pickF rfl hb6998).o <| WL.p rfl rfl rfl (.s 172 rfl (.s 184 rfl .nil)) (q_pickF rfl hb6997) <| WL.nil ?_
          exact QN.weaken (.one rfl (.one rfl (.one rfl (.one rfl (.one rfl (.one rfl (.nil _))))))) (Kj6984 () false h)
      ·refine W.exit <| QX.then_ <| QX.then_ <| QX.here ?_
       exact QN.weaken (.one rfl (.nil _)) (Kj6273 (g1.1, g1.2.1, g1.2.2) y9 y10 y11 h)
     ·refine W.drawK [(0, false), (1, false), (2, false), (3, false), (4, true), (5, false), (6, false), (7, false), (8, true), (9, true), (10, false), (11, false), (12, false), (13, true), (14, true), (15, false), (16, false)] [17, 18, 19, 20] [[], [], [1], [1, 2], [1, 2, 3], [], [5], [5, 6], [5, 6, 7], [5, 6, 7, 8], [], [10], [10, 11], [10, 11, 12], [5, 6, 7, 8, 9, 10, 11, 12, 13], [5, 6, 7, 8, 9, 10, 11, 12, 13, 14], [5, 6, 7, 8, 9, 10, 11, 12, 13, 14, 15], [1, 2, 3, 4, 5, 6, 7, 8, 9, 10, 11, 12, 13, 14, 15, 16], [0, 1, 2, 3, 4, 5, 6, 7, 8, 9, 10, 11, 12, 13, 14, 15, 16, 17], [0, 1, 2, 3, 4, 5, 6, 7, 8, 9, 10, 11, 12, 13, 14, 15, 16, 17, 18], [0, 1, 2, 3, 4, 5, 6, 7, 8, 9, 10, 11, 12, 13, 14, 15, 16, 17, 18, 19]] mx (by kernel_rfl) <| DK.cons rfl rfl (.p rfl (.s 0 rfl .nil) rfl (q_move rfl)) <| DK.cons rfl rfl (.p rfl (.s 0 rfl .nil) rfl (q_move rfl)) <| DK.cons rfl rfl (.p rfl (.s 9 rfl .nil) rfl (q_nilCheckP rfl)) <| DK.cons rfl rfl (.p rfl (.s 10 rfl .nil) rfl (q_fieldP rfl fo108_8)) <| DK.cons rfl rfl (.o rfl (.s 11 rfl .nil) rfl (q_loadB rfl sh46 (i := 0) rfl rfl)) <| DK.cons rfl rfl (.p rfl (.s 0 rfl .nil) rfl (q_move rfl)) <| DK.cons rfl rfl (.p rfl (.s 13 rfl .nil) rfl (q_nilCheckP rfl)) <| DK.cons rfl rfl (.p rfl (.s 14 rfl .nil) rfl (q_fieldP rfl fo108_6)) <| DK.cons rfl rfl (.o rfl (.s 15 rfl .nil) rfl (q_loadB rfl sh26 (i := 0) rfl rfl)) ?_
      obtain ⟨t7008, ht7008, h⟩ := bind_s h
      refine DK.cons rfl rfl (.o rfl (.s 16 rfl .nil) rfl (q_lendNew (f := 90) (xs := [.tmp 16]) («as» := [HdA w0]) rfl ca90 (slices_Clone_int.conN k a0.fnodes t7008 ht7008) rfl (.cons (.slc 1 rfl) .nil) kIntFlat)) <| DK.cons rfl rfl (.p rfl (.s 0 rfl .nil) rfl (q_move rfl)) <| DK.cons rfl rfl (.p rfl (.s 18 rfl .nil) rfl (q_nilCheckP rfl)) <| DK.cons rfl rfl (.p rfl (.s 19 rfl .nil) rfl (q_fieldP rfl fo108_7)) <| DK.cons rfl rfl (.o rfl (.s 20 rfl .nil) rfl (q_loadB rfl sh26 (i := 0) rfl rfl)) ?_
      obtain ⟨t7009, ht7009, h⟩ := bind_s h
      refine DK.cons rfl rfl (.o rfl (.s 21 rfl .nil) rfl (q_lendNew (f := 90) (xs := [.tmp 21]) («as» := [HdA w1]) rfl ca90 (slices_Clone_int.conN k a0.fedges t7009 ht7009) rfl (.cons (.slc 2 rfl) .nil) kIntFlat)) <| DK.cons rfl rfl (.p rfl (.s 17 rfl (.s 22 rfl .nil)) rfl (q_build (is := [0, 1]) (xs := [.tmp 17, .tmp 22]) (L := [SlcA kInt t7008, SlcA kInt t7009]) rfl rfl z33 pl33 rfl rfl (.cons (CellsOf.one rfl) (.cons (CellsOf.one rfl) .nil)) rfl)) <| DK.cons rfl rfl (.p rfl (.s 23 rfl .nil) rfl (q_lit (kd := kMorphism) (ps := [(0, .tmp 23)]) (xs := [.tmp 23]) («as» := [AggA [SlcA kInt t7008, SlcA kInt t7009]]) (ys := [(Morphism.mk t7008 t7009)]) rfl rfl el46 rfl gr33 rfl rfl rfl (.cons (CellsOf.agg _) .nil))) ?_
      obtain ⟨c7010, h⟩ := ite_n h
      refine DK.nil <| CSteps.w [3] rfl rfl rfl rfl (.s 12 rfl (.s 24 rfl .nil)) rfl (w_append (kd := kMorphism) rfl el46 rfl gr33 c7010) ?_
      rintro _ _ ⟨v7011, rfl, rfl⟩
      refine CSteps.p rfl rfl rfl (.s 8 rfl .nil) rfl (q_nilCheckP rfl) <| CSteps.p rfl rfl rfl (.s 26 rfl .nil) rfl (q_fieldP rfl fo108_8) <| CSteps.w0 [1] rfl rfl rfl (.s 27 rfl (.s 25 rfl .nil)) rfl (w_store (L := [SlcA kInt a0.fp.fNodes, SlcA kEdge a0.fp.fEdges, SlcA kInt a0.fg.fNodes, SlcA kEdge a0.fg.fEdges, SlcA (kSl kBool) a0.fis, OptA kInt a0.fpartial.fNodes, OptA kInt a0.fpartial.fEdges, EqA (.bool a0.finjective), EqA (.int .i64 a0.fmost), HdA w0, HdA w1, HdA v7011]) rfl sh46 (CellsOf.one rfl) rfl rfl (leB rfl) rfl) ?_
      rintro _ _ ⟨rfl, rfl⟩
      refine CSteps.nil <| QN.order [0, 1, 1, 0] rfl ?_
      exact QN.weaken (.one rfl (.nil _)) (Kj6273 (w0, w1, v7011) a0.fnodes a0.fedges (a0.fout ++ [(Morphism.mk t7008 t7009)]) h)
end Go.Proofs.YtelpgjfojhcjcaaGreat
