/- The Go functions compute the pure ones. (Printed by gen.py.) -/
import Derived.Test.YtelpgjfojhcjcaaGreatC5
namespace Go.Proofs.YtelpgjfojhcjcaaGreat
open Go Go.Abs
attribute [local irreducible] Tryz.prog
theorem search_found.con (k : Nat) (a0 : Types) (a1 : Graph) (a2 : Graph) (a3 : OMorphism) (a4 : Bool) (a5 : Int) (r : (List Morphism)) (h : search_found k a0 a1 a2 a3 a4 a5 = some r) : Con Tryz.prog 42 [] [AggA [SlcA kNodeType a0.fNodes, SlcA kEdgeType a0.fEdges], AggA [SlcA kInt a1.fNodes, SlcA kEdge a1.fEdges], AggA [SlcA kInt a2.fNodes, SlcA kEdge a2.fEdges], AggA [OptA kInt a3.fNodes, OptA kInt a3.fEdges], EqA (.bool a4), EqA (.int .i64 a5)] (RA (SlcA kMorphism r)) := by
 unfold search_found at h
 refine Con.of (N := 29) Tryz.func42 rfl rfl rfl fun w0_ fg_ => W.seq <| W.region <| WL.p rfl rfl rfl (.s 0 rfl .nil) (q_box rfl (CellsOf.agg _)) <| WL.p rfl rfl rfl (.s 1 rfl .nil) (q_box rfl (CellsOf.agg _)) <| WL.p rfl rfl rfl (.s 2 rfl .nil) (q_box rfl (CellsOf.agg _)) <| WL.p rfl rfl rfl (.s 3 rfl .nil) (q_box rfl (CellsOf.agg _)) <| WL.p rfl rfl rfl (.k .nil) (q_assign rfl) <| WL.nil <| QN.then_ <| W.seq <| W.drawK [(0, false), (1, false), (2, false), (3, false), (4, false), (5, false), (6, false), (7, false)] [8, 9] [[], [], [], [2], [], [], [], [0, 1, 2, 3, 4, 5, 6], [0, 1, 2, 3, 4, 5, 6, 7], [0, 1, 2, 3, 4, 5, 6, 7, 8]] mx (by kernel_rfl) <| DK.cons rfl rfl (.p rfl (.s 7 rfl .nil) rfl (q_loadS rfl sh29 (leB rfl) rfl)) ?_
 refine DK.cons rfl rfl (.p rfl (.s 8 rfl .nil) rfl (q_loadS rfl sh29 (leB rfl) rfl)) <| DK.cons rfl rfl (.p rfl (.s 6 rfl .nil) rfl (q_loadS rfl sh25 (leB rfl) rfl)) ?_
 obtain ⟨t7016, ht7016, h⟩ := bind_s h
 refine DK.cons rfl rfl (.p rfl (.s 16 rfl .nil) rfl (q_call (f := 60) (A := SlcA (kSl kBool) t7016) (xs := [.tmp 16]) («as» := [AggA [SlcA kNodeType a0.fNodes, SlcA kEdgeType a0.fEdges]]) rfl ca60 (search_below.con k a0 t7016 ht7016) rfl)) <| DK.cons rfl rfl (.p rfl (.s 9 rfl .nil) rfl (q_loadS rfl sh33 (leB rfl) rfl)) <| DK.cons rfl rfl (.p rfl (.s 4 rfl .nil) rfl (q_move rfl)) <| DK.cons rfl rfl (.p rfl (.s 5 rfl .nil) rfl (q_move rfl)) <| DK.cons rfl rfl (.p rfl (.s 14 rfl (.s 15 rfl (.s 17 rfl (.s 18 rfl (.s 19 rfl (.s 20 rfl .nil)))))) rfl (q_build (is := [0, 1, 2, 3, 4, 5]) (xs := [.tmp 14, .tmp 15, .tmp 17, .tmp 18, .tmp 19, .tmp 20]) (L := [SlcA kInt a1.fNodes, SlcA kEdge a1.fEdges, SlcA kInt a2.fNodes, SlcA kEdge a2.fEdges, SlcA (kSl kBool) t7016, OptA kInt a3.fNodes, OptA kInt a3.fEdges, EqA (.bool a4), EqA (.int .i64 a5), EqA (.slice none 0 0), EqA (.slice none 0 0), EqA (.slice none 0 0)]) rfl rfl z108 pl108 rfl rfl (.cons (CellsOf.agg _) (.cons (CellsOf.agg _) (.cons (CellsOf.one rfl) (.cons (CellsOf.agg _) (.cons (CellsOf.one rfl) (.cons (CellsOf.one rfl) .nil)))))) rfl)) <| DK.nil <| CSteps.w [] rfl rfl rfl rfl (.s 21 rfl .nil) rfl (w_box rfl (CellsOf.agg _)) ?_
 rintro _ _ ⟨b7017, rfl, rfl⟩
 refine CSteps.p rfl rfl rfl (.s 22 rfl .nil) rfl (q_assign rfl) <| CSteps.nil <| QN.weaken (env' := [(13, _)]) (.one rfl (.nil _)) <| QN.then_ <| W.seq <| W.region <| WL.p rfl rfl rfl (.s 13 rfl .nil) (q_move rfl) ?_
 obtain ⟨t7021, ht7021, h⟩ := bind_s h
 refine WL.to (StTo.boxImp [0] rfl (.cons (Imp.id _) (.cons (Imp.id _) (.cons (Imp.id _) (.cons (Imp.id _) (.cons (Imp.id _) (.cons (Imp.id _) (.cons (Imp.id _) (.cons (Imp.id _) (.cons (Imp.id _) (.cons Imp.nilHd (.cons Imp.nilHd (.cons Imp.nilHd .nil))))))))))))) <| WL.to (StTo.newNil 3 kInt) <| WL.to (StTo.newNil 3 kInt) <| WL.to (StTo.newNil 33 kMorphism) <| WL.w [3, 2, 1, 0] rfl (Wanted.plain rfl) rfl rfl (.s 23 rfl .nil) (w_callI (f := 63) (xs := [.tmp 23]) («as» := [EqA (.pointer (some ⟨b7017, 0, none⟩))]) rfl ca63 (search_finder_find.con k b7017 (.slice none 0 0) (.slice none 0 0) (.slice none 0 0) (Finder.mk a1 a2 t7016 a3 a4 a5 [] [] []) t7021 ht7021) rfl (.cons (Imp.id _) .nil)) ?_
 rintro _ _ ⟨v7022, v7023, v7024, rfl, rfl⟩
 refine WL.nil <| QN.then_ <| W.seq <| W.region <| WL.p rfl rfl rfl (.s 13 rfl .nil) (q_move rfl) <| WL.p rfl rfl rfl (.s 25 rfl .nil) (q_nilCheckP rfl) <| WL.p rfl rfl rfl (.s 26 rfl .nil) (q_fieldP rfl fo108_8) <| WL.q (Wanted.plain rfl) rfl rfl (.s 27 rfl .nil) (q_loadB rfl sh46 (i := 0) rfl rfl) <| WL.p rfl rfl rfl (.s 28 rfl .nil) (q_assign rfl) <| WL.nil <| QN.weaken (env' := [(12, _)]) (.one rfl (.nil _)) <| QN.then_ <| W.ret ?_
 cases h
 exact QR.f1 rfl rfl (.t rfl) (.slc 3 rfl)
theorem search_all.con (k : Nat) (a0 : Types) (a1 : Graph) (a2 : Graph) (a3 : OMorphism) (a4 : Bool) (r : ((List Morphism) × Int)) (h : search_all k a0 a1 a2 a3 a4 = some r) : Con Tryz.prog 47 [] [AggA [SlcA kNodeType a0.fNodes, SlcA kEdgeType a0.fEdges], AggA [SlcA kInt a1.fNodes, SlcA kEdge a1.fEdges], AggA [SlcA kInt a2.fNodes, SlcA kEdge a2.fEdges], AggA [OptA kInt a3.fNodes, OptA kInt a3.fEdges], EqA (.bool a4)] (RA (TupA [SlcA kMorphism r.1, EqA (.int .i64 r.2)])) := by
 unfold search_all at h
 refine Con.of (N := 23) Tryz.func47 rfl rfl rfl fun w0_ fg_ => W.seq <| W.region <| WL.p rfl rfl rfl (.s 0 rfl .nil) (q_box rfl (CellsOf.agg _)) <| WL.p rfl rfl rfl (.s 1 rfl .nil) (q_box rfl (CellsOf.agg _)) <| WL.p rfl rfl rfl (.s 2 rfl .nil) (q_box rfl (CellsOf.agg _)) <| WL.p rfl rfl rfl (.s 3 rfl .nil) (q_box rfl (CellsOf.agg _)) <| WL.p rfl rfl rfl (.k .nil) (q_assign rfl) <| WL.p rfl rfl rfl (.k .nil) (q_assign rfl) <| WL.nil <| QN.then_ <| W.seq <| W.region ?_
 refine WL.p rfl rfl rfl (.s 5 rfl .nil) (q_loadS rfl sh25 (leB rfl) rfl) <| WL.p rfl rfl rfl (.s 6 rfl .nil) (q_loadS rfl sh29 (leB rfl) rfl) <| WL.p rfl rfl rfl (.s 7 rfl .nil) (q_loadS rfl sh29 (leB rfl) rfl) <| WL.p rfl rfl rfl (.s 8 rfl .nil) (q_loadS rfl sh33 (leB rfl) rfl) <| WL.p rfl rfl rfl (.s 4 rfl .nil) (q_move rfl) ?_
 obtain ⟨t7025, ht7025, h⟩ := bind_s h
 refine WL.p rfl rfl rfl (.s 13 rfl (.s 14 rfl (.s 15 rfl (.s 16 rfl (.s 17 rfl (.k .nil)))))) (q_call (f := 42) (A := SlcA kMorphism t7025) (xs := [.tmp 13, .tmp 14, .tmp 15, .tmp 16, .tmp 17, .const (.int .i64 5001)]) («as» := [AggA [SlcA kNodeType a0.fNodes, SlcA kEdgeType a0.fEdges], AggA [SlcA kInt a1.fNodes, SlcA kEdge a1.fEdges], AggA [SlcA kInt a2.fNodes, SlcA kEdge a2.fEdges], AggA [OptA kInt a3.fNodes, OptA kInt a3.fEdges], EqA (.bool a4), EqA (.int .i64 5001)]) rfl ca42 (search_found.con k a0 a1 a2 a3 a4 5001 t7025 ht7025) rfl) <| WL.p rfl rfl rfl (.s 18 rfl .nil) (q_assign rfl) <| WL.nil <| QN.weaken (env' := [(12, _)]) (.one rfl (.nil _)) <| QN.then_ <| W.seq <| W.seq <| W.region <| WL.p rfl rfl rfl (.s 12 rfl .nil) (q_move rfl) <| WL.p rfl rfl rfl (.s 19 rfl .nil) (q_len rfl elS46) <| WL.p rfl rfl rfl (.s 20 rfl (.k .nil)) (q_int rfl rfl) <| WL.nil <| QN.then_ ?_
 refine W.condP h rfl (fun hb7026 h => ?_) (fun hb7026 h => ?_)
 ·refine W.seq <| W.region <| WL.p rfl rfl rfl (.k .nil) (q_assign rfl) <| WL.p rfl rfl rfl (.k .nil) (q_assign rfl) <| WL.nil <| QN.then_ <| W.ret <| QR.then_ ?_
  cases h
  exact QR.f2 rfl rfl (.t rfl) (.t rfl) (.imp (Imp.tup (.cons (Imp.nil kMorphism) (.cons (Imp.id _) .nil))))
 ·refine W.skip <| QN.then_ <| W.seq <| W.region <| WL.p rfl rfl rfl (.s 12 rfl .nil) (q_move rfl) <| WL.p rfl rfl rfl (.s 22 rfl .nil) (q_assign rfl) <| WL.p rfl rfl rfl (.k .nil) (q_assign rfl) <| WL.nil <| QN.then_ <| W.ret ?_
  cases h
  exact QR.f2 rfl rfl (.t rfl) (.t rfl) (.id _)
theorem search_All.con (k : Nat) (a0 : Types) (a1 : Graph) (a2 : Graph) (a3 : Bool) (r : ((List Morphism) × Int)) (h : search_All k a0 a1 a2 a3 = some r) : Con Tryz.prog 24 [] [AggA [SlcA kNodeType a0.fNodes, SlcA kEdgeType a0.fEdges], AggA [SlcA kInt a1.fNodes, SlcA kEdge a1.fEdges], AggA [SlcA kInt a2.fNodes, SlcA kEdge a2.fEdges], EqA (.bool a3)] (RA (TupA [SlcA kMorphism r.1, EqA (.int .i64 r.2)])) := by
 unfold search_All at h
 refine Con.of (N := 26) Tryz.func24 rfl rfl rfl fun w0_ fg_ => W.seq <| W.region <| WL.p rfl rfl rfl (.s 0 rfl .nil) (q_box rfl (CellsOf.agg _)) <| WL.p rfl rfl rfl (.s 1 rfl .nil) (q_box rfl (CellsOf.agg _)) <| WL.p rfl rfl rfl (.s 2 rfl .nil) (q_box rfl (CellsOf.agg _)) <| WL.p rfl rfl rfl (.k .nil) (q_assign rfl) <| WL.p rfl rfl rfl (.k .nil) (q_assign rfl) <| WL.nil <| QN.then_ <| W.seq <| W.seq <| W.region ?_
 refine WL.p rfl rfl rfl (.s 4 rfl .nil) (q_loadS rfl sh25 (leB rfl) rfl) <| WL.p rfl rfl rfl (.s 5 rfl .nil) (q_loadS rfl sh29 (leB rfl) rfl) <| WL.p rfl rfl rfl (.s 6 rfl .nil) (q_loadS rfl sh29 (leB rfl) rfl) ?_
 obtain ⟨t7027, ht7027, h⟩ := bind_s h
 refine WL.p rfl rfl rfl (.s 11 rfl (.s 12 rfl (.s 13 rfl .nil))) (q_call (f := 36) (A := EqA (.int .i64 t7027)) (xs := [.tmp 11, .tmp 12, .tmp 13]) («as» := [AggA [SlcA kNodeType a0.fNodes, SlcA kEdgeType a0.fEdges], AggA [SlcA kInt a1.fNodes, SlcA kEdge a1.fEdges], AggA [SlcA kInt a2.fNodes, SlcA kEdge a2.fEdges]]) rfl ca36 (search_valid.con k a0 a1 a2 t7027 ht7027) rfl) <| WL.p rfl rfl rfl (.s 14 rfl .nil) (q_assign rfl) <| WL.nil <| QN.weaken (env' := [(10, _), (6, _), (5, _), (4, _), (3, _)]) (.one rfl (.one rfl (.one rfl (.one rfl (.one rfl (.nil _)))))) <| QN.then_ <| W.seq <| W.region <| WL.p rfl rfl rfl (.s 10 rfl .nil) (q_move rfl) <| WL.p rfl rfl rfl (.s 15 rfl (.k .nil)) (q_int rfl rfl) <| WL.nil <| QN.then_ ?_
 refine W.condP h rfl (fun hb7028 h => ?_) (fun hb7028 h => ?_)
 ·refine W.seq <| W.region <| WL.p rfl rfl rfl (.s 10 rfl .nil) (q_move rfl) <| WL.p rfl rfl rfl (.k .nil) (q_assign rfl) <| WL.p rfl rfl rfl (.s 17 rfl .nil) (q_assign rfl) <| WL.nil <| QN.weaken (env' := [(9, _), (8, _)]) (.one rfl (.one rfl (.nil _))) <| QN.then_ <| W.ret <| QR.then_ ?_
  cases h
  exact QR.f2 rfl rfl (.t rfl) (.t rfl) (.imp (Imp.tup (.cons (Imp.nil kMorphism) (.cons (Imp.id _) .nil))))
 ·refine W.skip <| QN.then_ <| W.seq <| W.region <| WL.p rfl rfl rfl (.s 4 rfl .nil) (q_loadS rfl sh25 (leB rfl) rfl) <| WL.p rfl rfl rfl (.s 5 rfl .nil) (q_loadS rfl sh29 (leB rfl) rfl) <| WL.p rfl rfl rfl (.s 6 rfl .nil) (q_loadS rfl sh29 (leB rfl) rfl) <| WL.p rfl rfl rfl .nil (q_build (is := []) (xs := []) (L := [EqA (.slice none 0 0), EqA (.slice none 0 0)]) rfl rfl z33 pl33 rfl rfl .nil rfl) <| WL.p rfl rfl rfl (.s 3 rfl .nil) (q_move rfl) ?_
  obtain ⟨t7029, ht7029, h⟩ := bind_s h
  refine WL.p rfl rfl rfl (.s 18 rfl (.s 19 rfl (.s 20 rfl (.s 21 rfl (.s 22 rfl .nil))))) (q_callI (f := 47) (A := TupA [SlcA kMorphism t7029.1, EqA (.int .i64 t7029.2)]) (xs := [.tmp 18, .tmp 19, .tmp 20, .tmp 21, .tmp 22]) («as» := [AggA [SlcA kNodeType a0.fNodes, SlcA kEdgeType a0.fEdges], AggA [SlcA kInt a1.fNodes, SlcA kEdge a1.fEdges], AggA [SlcA kInt a2.fNodes, SlcA kEdge a2.fEdges], AggA [EqA (.slice none 0 0), EqA (.slice none 0 0)], EqA (.bool a3)]) rfl ca47 (search_all.con k a0 a1 a2 (OMorphism.mk none none) a3 t7029 ht7029) rfl (.cons (Imp.id _) (.cons (Imp.id _) (.cons (Imp.id _) (.cons (Imp.agg (.cons (Imp.optN kInt) (.cons (Imp.optN kInt) .nil))) (.cons (Imp.id _) .nil)))))) <| WL.p rfl rfl rfl (.s 23 rfl .nil) (q_extract rfl rfl) <| WL.p rfl rfl rfl (.s 23 rfl .nil) (q_extract rfl rfl) <| WL.p rfl rfl rfl (.s 24 rfl .nil) (q_assign rfl) <| WL.p rfl rfl rfl (.s 25 rfl .nil) (q_assign rfl) <| WL.nil <| QN.weaken (env' := [(9, _), (8, _)]) (.one rfl (.one rfl (.nil _))) <| QN.then_ <| W.ret ?_
  cases h
  exact QR.f2 rfl rfl (.t rfl) (.t rfl) (.id _)
theorem search_Count.con (k : Nat) (a0 : Types) (a1 : Graph) (a2 : Graph) (a3 : Bool) (r : (Int × Int)) (h : search_Count k a0 a1 a2 a3 = some r) : Con Tryz.prog 28 [] [AggA [SlcA kNodeType a0.fNodes, SlcA kEdgeType a0.fEdges], AggA [SlcA kInt a1.fNodes, SlcA kEdge a1.fEdges], AggA [SlcA kInt a2.fNodes, SlcA kEdge a2.fEdges], EqA (.bool a3)] (RA (TupA [EqA (.int .i64 r.1), EqA (.int .i64 r.2)])) := by
 unfold search_Count at h
 refine Con.of (N := 23) Tryz.func28 rfl rfl rfl fun w0_ fg_ => W.seq <| W.region <| WL.p rfl rfl rfl (.s 0 rfl .nil) (q_box rfl (CellsOf.agg _)) <| WL.p rfl rfl rfl (.s 1 rfl .nil) (q_box rfl (CellsOf.agg _)) <| WL.p rfl rfl rfl (.s 2 rfl .nil) (q_box rfl (CellsOf.agg _)) <| WL.p rfl rfl rfl (.k .nil) (q_assign rfl) <| WL.p rfl rfl rfl (.k .nil) (q_assign rfl) <| WL.nil <| QN.then_ <| W.seq <| W.region <| WL.p rfl rfl rfl (.s 4 rfl .nil) (q_loadS rfl sh25 (leB rfl) rfl) ?_
 refine WL.p rfl rfl rfl (.s 5 rfl .nil) (q_loadS rfl sh29 (leB rfl) rfl) <| WL.p rfl rfl rfl (.s 6 rfl .nil) (q_loadS rfl sh29 (leB rfl) rfl) <| WL.p rfl rfl rfl (.s 3 rfl .nil) (q_move rfl) ?_
 obtain ⟨t7030, ht7030, h⟩ := bind_s h
 refine WL.p rfl rfl rfl (.s 13 rfl (.s 14 rfl (.s 15 rfl (.s 16 rfl .nil)))) (q_call (f := 24) (A := TupA [SlcA kMorphism t7030.1, EqA (.int .i64 t7030.2)]) (xs := [.tmp 13, .tmp 14, .tmp 15, .tmp 16]) («as» := [AggA [SlcA kNodeType a0.fNodes, SlcA kEdgeType a0.fEdges], AggA [SlcA kInt a1.fNodes, SlcA kEdge a1.fEdges], AggA [SlcA kInt a2.fNodes, SlcA kEdge a2.fEdges], EqA (.bool a3)]) rfl ca24 (search_All.con k a0 a1 a2 a3 t7030 ht7030) rfl) <| WL.p rfl rfl rfl (.s 17 rfl .nil) (q_move rfl) <| WL.p rfl rfl rfl (.s 12 rfl .nil) (q_extract rfl rfl) <| WL.p rfl rfl rfl (.s 12 rfl .nil) (q_extract rfl rfl) <| WL.p rfl rfl rfl (.s 18 rfl .nil) (q_assign rfl) <| WL.p rfl rfl rfl (.s 19 rfl .nil) (q_assign rfl) <| WL.nil <| QN.weaken (env' := [(11, _), (10, _)]) (.one rfl (.one rfl (.nil _))) <| QN.then_ <| W.seq <| W.region <| WL.p rfl rfl rfl (.s 10 rfl .nil) (q_move rfl) <| WL.p rfl rfl rfl (.s 20 rfl .nil) (q_len rfl elS46) ?_
 refine WL.p rfl rfl rfl (.s 11 rfl .nil) (q_move rfl) <| WL.p rfl rfl rfl (.s 21 rfl .nil) (q_assign rfl) <| WL.p rfl rfl rfl (.s 22 rfl .nil) (q_assign rfl) <| WL.nil <| QN.then_ <| W.ret ?_
 cases h
 exact QR.f2 rfl rfl (.t rfl) (.t rfl) (.id _)
theorem search_shape.con (k : Nat) (a0 : Types) (a1 : Graph) (a2 : Graph) (a3 : Morphism) (r : Int) (h : search_shape k a0 a1 a2 a3 = some r) : Con Tryz.prog 37 [] [AggA [SlcA kNodeType a0.fNodes, SlcA kEdgeType a0.fEdges], AggA [SlcA kInt a1.fNodes, SlcA kEdge a1.fEdges], AggA [SlcA kInt a2.fNodes, SlcA kEdge a2.fEdges], AggA [SlcA kInt a3.fNodes, SlcA kInt a3.fEdges]] (RA (EqA (.int .i64 r))) := by
 unfold search_shape at h
 refine Con.of (N := 121) Tryz.func37 rfl rfl rfl fun w0_ fg_ => W.seq <| W.region <| WL.p rfl rfl rfl (.s 0 rfl .nil) (q_box rfl (CellsOf.agg _)) <| WL.p rfl rfl rfl (.s 1 rfl .nil) (q_box rfl (CellsOf.agg _)) <| WL.p rfl rfl rfl (.s 2 rfl .nil) (q_box rfl (CellsOf.agg _)) <| WL.p rfl rfl rfl (.s 3 rfl .nil) (q_box rfl (CellsOf.agg _)) <| WL.p rfl rfl rfl (.k .nil) (q_assign rfl) <| WL.nil <| QN.then_ <| W.seq <| W.seq ?_
 refine W.jn1 (Γ := Unit) (fun (_ : Unit) (x31 : Bool) => [(4, PtrA [SlcA kNodeType a0.fNodes, SlcA kEdgeType a0.fEdges]), (5, PtrA [SlcA kInt a1.fNodes, SlcA kEdge a1.fEdges]), (6, PtrA [SlcA kInt a2.fNodes, SlcA kEdge a2.fEdges]), (7, PtrA [SlcA kInt a3.fNodes, SlcA kInt a3.fEdges]), (31, EqA (.bool x31))]) (fun (_ : Unit) (_ : Bool) => []) h (fun _ x31 h => ?_) (fun j7033 Kj7033 h => ?_)
 ·refine QN.then_ ?_
  refine W.condP h rfl (fun hb7034 h => ?_) (fun hb7034 h => ?_)
  ·refine W.seq <| W.region <| WL.p rfl rfl rfl (.k .nil) (q_assign rfl) <| WL.nil <| QN.then_ <| W.ret <| QR.then_ ?_
   cases h
   exact QR.f1 rfl rfl (.t rfl) (.id _)
  ·refine W.skip <| QN.then_ <| W.seq <| W.region <| WL.p rfl rfl rfl (.s 4 rfl .nil) (q_loadS rfl sh25 (leB rfl) rfl) ?_
   obtain ⟨t7035, ht7035, h⟩ := bind_s h
   refine WL.p rfl rfl rfl (.s 32 rfl .nil) (q_call (f := 60) (A := SlcA (kSl kBool) t7035) (xs := [.tmp 32]) («as» := [AggA [SlcA kNodeType a0.fNodes, SlcA kEdgeType a0.fEdges]]) rfl ca60 (search_below.con k a0 t7035 ht7035) rfl) <| WL.p rfl rfl rfl (.s 33 rfl .nil) (q_assign rfl) <| WL.nil <| QN.then_ <| W.seq <| W.seq <| W.region <| WL.p rfl rfl rfl (.s 7 rfl .nil) (q_field rfl fo33_0 rfl) <| WL.p rfl rfl rfl (.s 34 rfl .nil) (q_load rfl sh26) <| WL.p rfl rfl rfl (.s 35 rfl .nil) (q_len rfl elS26) <| WL.p rfl rfl rfl (.k .nil) (q_move rfl) <| WL.nil <| QN.then_ ?_
   refine W.block ?_
   refine W.loop1 (Γ := Unit) (fun (_ : Unit) (x37 : Int) => [(5, PtrA [SlcA kInt a1.fNodes, SlcA kEdge a1.fEdges]), (6, PtrA [SlcA kInt a2.fNodes, SlcA kEdge a2.fEdges]), (7, PtrA [SlcA kInt a3.fNodes, SlcA kInt a3.fEdges]), (9, SlcA (kSl kBool) t7035), (35, SlcA kInt a3.fNodes), (36, EqA (.int .i64 (a3.fNodes.length : Int))), (37, EqA (.int .i64 x37))]) (fun (_ : Unit) (_ : Int) => []) h () (.one rfl (.one rfl (.one rfl (.one rfl (.one rfl (.one rfl (.one rfl (.nil _)))))))) rfl (fun rec0 K0 next0 _ x37 h => ?_)
   unfold search_shape.b0 at h
   refine W.seq <| W.region <| WL.p rfl rfl rfl (.s 37 rfl (.s 36 rfl .nil)) (q_int rfl rfl) <| WL.nil <| QN.then_ <| W.seq ?_
   refine W.condP h rfl (fun hb7288 h => ?_) (fun hb7288 h => ?_)
   ·refine W.skip <| QN.then_ <| W.seq <| W.block <| W.seq <| W.region <| WL.p rfl rfl rfl (.s 37 rfl .nil) (q_move rfl) ?_
    obtain ⟨c7289, h⟩ := ite_n h
    refine WL.p rfl rfl rfl (.s 35 rfl (.s 37 rfl .nil)) (q_index rfl el26 rfl c7289.1 c7289.2) <| WL.p rfl rfl rfl (.s 40 rfl .nil) (q_load rfl sh3) <| WL.p rfl rfl rfl (.s 39 rfl .nil) (q_assign rfl) <| WL.p rfl rfl rfl (.s 41 rfl .nil) (q_assign rfl) <| WL.nil <| QN.then_ <| W.seq <| W.seq ?_
    refine W.jn1 (Γ := Unit) (fun (_ : Unit) (x50 : Bool) => [(5, PtrA [SlcA kInt a1.fNodes, SlcA kEdge a1.fEdges]), (6, PtrA [SlcA kInt a2.fNodes, SlcA kEdge a2.fEdges]), (7, PtrA [SlcA kInt a3.fNodes, SlcA kInt a3.fEdges]), (9, SlcA (kSl kBool) t7035), (35, SlcA kInt a3.fNodes), (36, EqA (.int .i64 (a3.fNodes.length : Int))), (37, EqA (.int .i64 x37)), (10, EqA (.int .i64 x37)), (11, EqA (.int .i64 (rd a3.fNodes x37))), (50, EqA (.bool x50))]) (fun (_ : Unit) (_ : Bool) => []) h (fun _ x50 h => ?_) (fun j7292 Kj7292 h => ?_)
    ·refine QN.then_ ?_
     refine W.condP h rfl (fun hb7293 h => ?_) (fun hb7293 h => ?_)
     ·refine W.seq <| W.region <| WL.p rfl rfl rfl (.k .nil) (q_assign rfl) <| WL.nil <| QN.weaken (env' := [(8, _)]) (.one rfl (.nil _)) <| QN.then_ <| W.ret <| QR.then_ <| QR.block <| QR.then_ <| QR.then_ <| QR.block <| QR.then_ ?_
      cases h
      exact QR.f1 rfl rfl (.t rfl) (.id _)
     ·refine W.skip <| QN.then_ <| W.seq <| W.drawK [(0, false), (1, false), (2, false), (3, false), (4, false), (5, false), (6, false), (7, false), (8, false), (9, false), (10, false), (11, false), (12, false), (13, false), (14, false), (15, false)] [] [[], [], [1], [], [1, 2, 3], [1, 2, 3, 4], [0, 1, 2, 3, 4, 5], [0, 1, 2, 3, 4, 5, 6], [], [8], [], [8, 9, 10], [8, 9, 10, 11], [0, 1, 2, 3, 4, 5, 6, 7, 8, 9, 10, 11, 12], [0, 1, 2, 3, 4, 5, 6, 7, 8, 9, 10, 11, 12, 13], [0, 1, 2, 3, 4, 5, 6, 7, 8, 9, 10, 11, 12, 13, 14]] mx (by kernel_rfl) <| DK.cons rfl rfl (.p rfl (.s 9 rfl .nil) rfl (q_move rfl)) <| DK.cons rfl rfl (.p rfl (.s 5 rfl .nil) rfl (q_field rfl fo29_0 rfl)) <| DK.cons rfl rfl (.p rfl (.s 52 rfl .nil) rfl (q_load rfl sh26)) <| DK.cons rfl rfl (.p rfl (.s 10 rfl .nil) rfl (q_move rfl)) ?_
      obtain ⟨c7302, h⟩ := ite_n h
      refine DK.cons rfl rfl (.p rfl (.s 53 rfl (.s 54 rfl .nil)) rfl (q_index rfl el26 rfl c7302.1 c7302.2)) <| DK.cons rfl rfl (.p rfl (.s 55 rfl .nil) rfl (q_load rfl sh3)) ?_
      obtain ⟨c7303, h⟩ := ite_n h
      refine DK.cons rfl rfl (.p rfl (.s 51 rfl (.s 56 rfl .nil)) rfl (q_index rfl el101 rfl c7303.1 c7303.2)) <| DK.cons rfl rfl (.p rfl (.s 57 rfl .nil) rfl (q_load rfl sh103)) <| DK.cons rfl rfl (.p rfl (.s 6 rfl .nil) rfl (q_field rfl fo29_0 rfl)) <| DK.cons rfl rfl (.p rfl (.s 59 rfl .nil) rfl (q_load rfl sh26)) <| DK.cons rfl rfl (.p rfl (.s 11 rfl .nil) rfl (q_move rfl)) ?_
      obtain ⟨c7304, h⟩ := ite_n h
      refine DK.cons rfl rfl (.p rfl (.s 60 rfl (.s 61 rfl .nil)) rfl (q_index rfl el26 rfl c7304.1 c7304.2)) <| DK.cons rfl rfl (.p rfl (.s 62 rfl .nil) rfl (q_load rfl sh3)) ?_
      obtain ⟨c7305, h⟩ := ite_n h
      refine DK.cons rfl rfl (.p rfl (.s 58 rfl (.s 63 rfl .nil)) rfl (q_index rfl el103 rfl c7305.1 c7305.2)) <| DK.cons rfl rfl (.p rfl (.s 64 rfl .nil) rfl (q_load rfl sh4)) <| DK.cons rfl rfl (.p rfl (.s 65 rfl .nil) rfl (q_not rfl)) <| DK.nil <| CSteps.nil <| QN.weaken (env' := [(66, _), (37, _), (36, _), (35, _), (9, _), (7, _), (6, _), (5, _)]) (.one rfl (.one rfl (.one rfl (.one rfl (.one rfl (.one rfl (.one rfl (.one rfl (.nil _))))))))) <| QN.then_ ?_
      refine W.condP h rfl (fun hb7306 h => ?_) (fun hb7306 h => ?_)
      ·refine W.seq <| W.region <| WL.p rfl rfl rfl (.k .nil) (q_assign rfl) <| WL.nil <| QN.weaken (env' := [(8, _)]) (.one rfl (.nil _)) <| QN.then_ <| W.ret <| QR.block <| QR.then_ <| QR.then_ <| QR.block <| QR.then_ ?_
       cases h
       exact QR.f1 rfl rfl (.t rfl) (.id _)
      ·refine W.skip <| QN.block <| QN.then_ <| W.region ?_
       obtain ⟨c7307, h⟩ := ite_n h
       refine WL.p rfl rfl rfl (.s 37 rfl (.k .nil)) (q_addR rfl c7307) <| WL.p rfl rfl rfl (.s 67 rfl .nil) (q_move rfl) <| WL.nil ?_
       exact next0 () (x37 + 1) _ h (.one rfl (.one rfl (.one rfl (.one rfl (.one rfl (.one rfl (.one rfl (.nil _))))))))
    ·refine W.region <| WL.p rfl rfl rfl (.s 11 rfl .nil) (q_move rfl) <| WL.p rfl rfl rfl (.s 42 rfl (.k .nil)) (q_int rfl rfl) <| WL.p rfl rfl rfl (.s 43 rfl .nil) (q_move rfl) ?_
     rcases bif_s h with ⟨hb7308, h⟩ | ⟨hb7308, h⟩
     ·refine WL.skip (Unwanted.on rfl rfl rfl hb7308) rfl rfl <| WL.skip (Unwanted.on rfl rfl rfl hb7308) rfl rfl <| WL.skip (Unwanted.on rfl rfl rfl hb7308) rfl rfl <| WL.skip (Unwanted.on rfl rfl rfl hb7308) rfl rfl <| WL.skip (Unwanted.on rfl rfl rfl hb7308) rfl rfl <| WL.p rfl rfl rfl (.s 44 rfl (.k .nil)) (q_pickT rfl hb7308) <| WL.nil ?_
      exact QN.weaken (.one rfl (.one rfl (.one rfl (.one rfl (.one rfl (.one rfl (.one rfl (.one rfl (.one rfl (.one rfl (.nil _))))))))))) (Kj7292 () true h)
     ·refine WL.q (Wanted.on rfl rfl rfl hb7308) rfl rfl (.s 11 rfl .nil) (q_move rfl).o <| WL.q (Wanted.on rfl rfl rfl hb7308) rfl rfl (.s 6 rfl .nil) (q_field rfl fo29_0 rfl).o <| WL.q (Wanted.on rfl rfl rfl hb7308) rfl rfl (.s 46 rfl .nil) (q_load rfl sh26).o <| WL.q (Wanted.on rfl rfl rfl hb7308) rfl rfl (.s 47 rfl .nil) (q_len rfl elS26).o <| WL.q (Wanted.on rfl rfl rfl hb7308) rfl rfl (.s 45 rfl (.s 48 rfl .nil)) (q_int rfl rfl).o <| WL.p rfl rfl rfl (.s 44 rfl (.s 49 rfl .nil)) (q_pickF rfl hb7308) <| WL.nil ?_
      exact QN.weaken (.one rfl (.one rfl (.one rfl (.one rfl (.one rfl (.one rfl (.one rfl (.one rfl (.one rfl (.one rfl (.nil _))))))))))) (Kj7292 () (decide ((rd a3.fNodes x37) ≥ (a2.fNodes.length : Int))) h)
   ·refine W.exit <| QX.then_ <| QX.then_ <| QX.here <| QN.then_ <| W.seq <| W.seq <| W.region <| WL.p rfl rfl rfl (.s 7 rfl .nil) (q_field rfl fo33_1 rfl) <| WL.p rfl rfl rfl (.s 68 rfl .nil) (q_load rfl sh26) <| WL.p rfl rfl rfl (.s 69 rfl .nil) (q_len rfl elS26) <| WL.p rfl rfl rfl (.k .nil) (q_move rfl) <| WL.nil ?_
    refine QN.then_ <| W.block ?_
    refine W.loop1 (Γ := Unit) (fun (_ : Unit) (x71 : Int) => [(5, PtrA [SlcA kInt a1.fNodes, SlcA kEdge a1.fEdges]), (6, PtrA [SlcA kInt a2.fNodes, SlcA kEdge a2.fEdges]), (7, PtrA [SlcA kInt a3.fNodes, SlcA kInt a3.fEdges]), (69, SlcA kInt a3.fEdges), (70, EqA (.int .i64 (a3.fEdges.length : Int))), (71, EqA (.int .i64 x71))]) (fun (_ : Unit) (_ : Int) => []) h () (.one rfl (.one rfl (.one rfl (.one rfl (.one rfl (.one rfl (.nil _))))))) rfl (fun rec1 K1 next1 _ x71 h => ?_)
    unfold search_shape.b1 at h
    refine W.seq <| W.region <| WL.p rfl rfl rfl (.s 71 rfl (.s 70 rfl .nil)) (q_int rfl rfl) <| WL.nil <| QN.then_ <| W.seq ?_
    refine W.condP h rfl (fun hb7379 h => ?_) (fun hb7379 h => ?_)
    ·refine W.skip <| QN.then_ <| W.seq <| W.block <| W.seq <| W.region <| WL.p rfl rfl rfl (.s 71 rfl .nil) (q_move rfl) ?_
     obtain ⟨c7380, h⟩ := ite_n h
     refine WL.p rfl rfl rfl (.s 69 rfl (.s 71 rfl .nil)) (q_index rfl el26 rfl c7380.1 c7380.2) <| WL.p rfl rfl rfl (.s 74 rfl .nil) (q_load rfl sh3) <| WL.p rfl rfl rfl (.s 73 rfl .nil) (q_assign rfl) <| WL.p rfl rfl rfl (.s 75 rfl .nil) (q_assign rfl) <| WL.nil <| QN.then_ <| W.seq <| W.seq ?_
     refine W.jn1 (Γ := Unit) (fun (_ : Unit) (x84 : Bool) => [(5, PtrA [SlcA kInt a1.fNodes, SlcA kEdge a1.fEdges]), (6, PtrA [SlcA kInt a2.fNodes, SlcA kEdge a2.fEdges]), (7, PtrA [SlcA kInt a3.fNodes, SlcA kInt a3.fEdges]), (69, SlcA kInt a3.fEdges), (70, EqA (.int .i64 (a3.fEdges.length : Int))), (71, EqA (.int .i64 x71)), (12, EqA (.int .i64 x71)), (13, EqA (.int .i64 (rd a3.fEdges x71))), (84, EqA (.bool x84))]) (fun (_ : Unit) (_ : Bool) => []) h (fun _ x84 h => ?_) (fun j7383 Kj7383 h => ?_)
     ·refine QN.then_ ?_
      refine W.condP h rfl (fun hb7384 h => ?_) (fun hb7384 h => ?_)
      ·refine W.seq <| W.region <| WL.p rfl rfl rfl (.k .nil) (q_assign rfl) <| WL.nil <| QN.weaken (env' := [(8, _)]) (.one rfl (.nil _)) <| QN.then_ <| W.ret <| QR.then_ <| QR.block <| QR.then_ <| QR.then_ <| QR.block <| QR.then_ ?_
       cases h
       exact QR.f1 rfl rfl (.t rfl) (.id _)
      ·refine W.skip <| QN.then_ <| W.seq ?_
       refine W.jn0 (Γ := Unit) (fun (_ : Unit) => [(5, PtrA [SlcA kInt a1.fNodes, SlcA kEdge a1.fEdges]), (6, PtrA [SlcA kInt a2.fNodes, SlcA kEdge a2.fEdges]), (7, PtrA [SlcA kInt a3.fNodes, SlcA kInt a3.fEdges]), (69, SlcA kInt a3.fEdges), (70, EqA (.int .i64 (a3.fEdges.length : Int))), (71, EqA (.int .i64 x71)), (14, PtrA [EqA (.int .i64 ((rd a1.fEdges x71).fType)), EqA (.int .i64 ((rd a1.fEdges x71).fFrom)), EqA (.int .i64 ((rd a1.fEdges x71).fTo))]), (15, PtrA [EqA (.int .i64 ((rd a2.fEdges (rd a3.fEdges x71)).fType)), EqA (.int .i64 ((rd a2.fEdges (rd a3.fEdges x71)).fFrom)), EqA (.int .i64 ((rd a2.fEdges (rd a3.fEdges x71)).fTo))])]) (fun (_ : Unit) => []) h (fun _ h => ?_) (fun j7394 Kj7394 h => ?_)
       ·refine QN.then_ <| W.seq <| W.seq <| W.region <| WL.p rfl rfl rfl (.s 14 rfl .nil) (q_field rfl fo77_0 rfl) <| WL.p rfl rfl rfl (.s 95 rfl .nil) (q_load rfl sh3) <| WL.p rfl rfl rfl (.s 15 rfl .nil) (q_field rfl fo77_0 rfl) <| WL.p rfl rfl rfl (.s 97 rfl .nil) (q_load rfl sh3) <| WL.p rfl rfl rfl (.s 96 rfl (.s 98 rfl .nil)) (q_int rfl rfl) <| WL.nil <| QN.then_ ?_
        refine W.condP h rfl (fun hb7395 h => ?_) (fun hb7395 h => ?_)
        ·refine W.seq <| W.region <| WL.p rfl rfl rfl (.k .nil) (q_assign rfl) <| WL.nil <| QN.weaken (env' := [(8, _)]) (.one rfl (.nil _)) <| QN.then_ <| W.ret <| QR.then_ <| QR.block <| QR.then_ <| QR.then_ <| QR.block <| QR.then_ ?_
         cases h
         exact QR.f1 rfl rfl (.t rfl) (.id _)
        ·refine W.skip <| QN.then_ <| W.seq ?_
         refine W.jn1 (Γ := Unit) (fun (_ : Unit) (x119 : Bool) => [(5, PtrA [SlcA kInt a1.fNodes, SlcA kEdge a1.fEdges]), (6, PtrA [SlcA kInt a2.fNodes, SlcA kEdge a2.fEdges]), (7, PtrA [SlcA kInt a3.fNodes, SlcA kInt a3.fEdges]), (69, SlcA kInt a3.fEdges), (70, EqA (.int .i64 (a3.fEdges.length : Int))), (71, EqA (.int .i64 x71)), (119, EqA (.bool x119))]) (fun (_ : Unit) (_ : Bool) => []) h (fun _ x119 h => ?_) (fun j7403 Kj7403 h => ?_)
         ·refine QN.then_ ?_
          refine W.condP h rfl (fun hb7404 h => ?_) (fun hb7404 h => ?_)
          ·refine W.seq <| W.region <| WL.p rfl rfl rfl (.k .nil) (q_assign rfl) <| WL.nil <| QN.weaken (env' := [(8, _)]) (.one rfl (.nil _)) <| QN.then_ <| W.ret <| QR.block <| QR.then_ <| QR.then_ <| QR.block <| QR.then_ ?_
           cases h
           exact QR.f1 rfl rfl (.t rfl) (.id _)
          ·refine W.skip <| QN.block <| QN.then_ <| W.region ?_
           obtain ⟨c7405, h⟩ := ite_n h
           refine WL.p rfl rfl rfl (.s 71 rfl (.k .nil)) (q_addR rfl c7405) <| WL.p rfl rfl rfl (.s 120 rfl .nil) (q_move rfl) <| WL.nil ?_
           exact next1 () (x71 + 1) _ h (.one rfl (.one rfl (.one rfl (.one rfl (.one rfl (.one rfl (.nil _)))))))
         ·refine W.drawK [(0, false), (1, false), (2, false), (3, false), (4, false), (5, false), (6, false), (7, false), (8, false), (9, false), (10, false), (11, false), (12, false), (13, false), (14, false), (15, false), (16, false), (17, false), (18, false), (19, false)] [] [[], [0], [], [2], [0, 1, 2, 3], [0, 1, 2, 3, 4], [], [6], [0, 1, 2, 3, 4, 5, 6, 7], [0, 1, 2, 3, 4, 5, 6, 7, 8], [0, 1, 2, 3, 4, 5, 6, 7, 8, 9], [0, 1, 2, 3, 4, 5, 6, 7, 8, 9, 10], [0, 1, 2, 3, 4, 5, 6, 7, 8, 9], [0, 1, 2, 3, 4, 5, 6, 7, 8, 9, 12], [0, 1, 2, 3, 4, 5, 6, 7, 8, 9, 10, 11, 12, 13], [0, 1, 2, 3, 4, 5, 6, 7, 8, 9, 10, 11, 12, 13, 14], [0, 1, 2, 3, 4, 5, 6, 7, 8, 9], [0, 1, 2, 3, 4, 5, 6, 7, 8, 9, 16], [0, 1, 2, 3, 4, 5, 6, 7, 8, 9, 10, 11, 12, 13, 14, 15, 16, 17], [0, 1, 2, 3, 4, 5, 6, 7, 8, 9, 10, 11, 12, 13, 14, 15, 16, 17, 18]] mx (by kernel_rfl) <| DK.cons rfl rfl (.p rfl (.s 7 rfl .nil) rfl (q_field rfl fo33_0 rfl)) <| DK.cons rfl rfl (.p rfl (.s 100 rfl .nil) rfl (q_load rfl sh26)) <| DK.cons rfl rfl (.p rfl (.s 14 rfl .nil) rfl (q_field rfl fo77_1 rfl)) <| DK.cons rfl rfl (.p rfl (.s 102 rfl .nil) rfl (q_load rfl sh3)) ?_
          obtain ⟨c7406, h⟩ := ite_n h
          refine DK.cons rfl rfl (.p rfl (.s 101 rfl (.s 103 rfl .nil)) rfl (q_index rfl el26 rfl c7406.1 c7406.2)) <| DK.cons rfl rfl (.p rfl (.s 104 rfl .nil) rfl (q_load rfl sh3)) <| DK.cons rfl rfl (.p rfl (.s 15 rfl .nil) rfl (q_field rfl fo77_1 rfl)) <| DK.cons rfl rfl (.p rfl (.s 106 rfl .nil) rfl (q_load rfl sh3)) <| DK.cons rfl rfl (.p rfl (.s 105 rfl (.s 107 rfl .nil)) rfl (q_int rfl rfl)) <| DK.cons rfl rfl (.p rfl (.s 108 rfl .nil) rfl (q_move rfl)) ?_
          rcases bif_s h with ⟨hb7407, h⟩ | ⟨hb7407, h⟩
          ·refine DK.cons rfl rfl (.off rfl rfl rfl hb7407) <| DK.cons rfl rfl (.off rfl rfl rfl hb7407) <| DK.cons rfl rfl (.off rfl rfl rfl hb7407) <| DK.cons rfl rfl (.off rfl rfl rfl hb7407) <| DK.cons rfl rfl (.off rfl rfl rfl hb7407) <| DK.cons rfl rfl (.off rfl rfl rfl hb7407) <| DK.cons rfl rfl (.off rfl rfl rfl hb7407) <| DK.cons rfl rfl (.off rfl rfl rfl hb7407) <| DK.cons rfl rfl (.off rfl rfl rfl hb7407) <| DK.cons rfl rfl (.p rfl (.s 109 rfl (.k .nil)) rfl (q_pickT rfl hb7407)) <| DK.nil <| CSteps.nil ?_
           exact QN.weaken (.one rfl (.one rfl (.one rfl (.one rfl (.one rfl (.one rfl (.one rfl (.nil _)))))))) (Kj7403 () true h)
          ·refine DK.cons rfl rfl (.gp rfl rfl rfl hb7407 (.s 7 rfl .nil) rfl (q_field rfl fo33_0 rfl)) <| DK.cons rfl rfl (.gp rfl rfl rfl hb7407 (.s 110 rfl .nil) rfl (q_load rfl sh26)) <| DK.cons rfl rfl (.gp rfl rfl rfl hb7407 (.s 14 rfl .nil) rfl (q_field rfl fo77_2 rfl)) <| DK.cons rfl rfl (.gp rfl rfl rfl hb7407 (.s 112 rfl .nil) rfl (q_load rfl sh3)) ?_
           obtain ⟨c7408, h⟩ := ite_n h
           refine DK.cons rfl rfl (.gp rfl rfl rfl hb7407 (.s 111 rfl (.s 113 rfl .nil)) rfl (q_index rfl el26 rfl c7408.1 c7408.2)) <| DK.cons rfl rfl (.gp rfl rfl rfl hb7407 (.s 114 rfl .nil) rfl (q_load rfl sh3)) <| DK.cons rfl rfl (.gp rfl rfl rfl hb7407 (.s 15 rfl .nil) rfl (q_field rfl fo77_2 rfl)) <| DK.cons rfl rfl (.gp rfl rfl rfl hb7407 (.s 116 rfl .nil) rfl (q_load rfl sh3)) <| DK.cons rfl rfl (.gp rfl rfl rfl hb7407 (.s 115 rfl (.s 117 rfl .nil)) rfl (q_int rfl rfl)) <| DK.cons rfl rfl (.p rfl (.s 109 rfl (.s 118 rfl .nil)) rfl (q_pickF rfl hb7407)) <| DK.nil <| CSteps.nil ?_
           exact QN.weaken (.one rfl (.one rfl (.one rfl (.one rfl (.one rfl (.one rfl (.one rfl (.nil _)))))))) (Kj7403 () ((rd a3.fNodes ((rd a1.fEdges x71).fTo)) != (rd a2.fEdges (rd a3.fEdges x71)).fTo) h)
       ·refine W.drawKT [(0, false), (1, false), (2, false), (3, false), (4, false), (5, false), (6, false), (7, false), (8, false), (9, false)] [10, 11, 12, 13] [10, 11] 4 [[], [0], [], [0, 1, 2], [0, 1, 2, 3], [], [5], [], [5, 6, 7], [5, 6, 7, 8], [], [], [0, 1, 2, 3, 4, 10, 11], [0, 1, 2, 3, 4, 5, 6, 7, 8, 9, 10, 11, 12]] mx (by kernel_rfl) <| DKT.cons rfl rfl (.p rfl (.s 5 rfl .nil) rfl (q_field rfl fo29_1 rfl)) <| DKT.cons rfl rfl (.p rfl (.s 85 rfl .nil) rfl (q_load rfl sh27)) <| DKT.cons rfl rfl (.p rfl (.s 12 rfl .nil) rfl (q_move rfl)) ?_
        obtain ⟨c7409, h⟩ := ite_n h
        refine DKT.cons rfl rfl (.p rfl (.s 86 rfl (.s 87 rfl .nil)) rfl (q_index rfl el27 rfl c7409.1 c7409.2)) <| DKT.cons rfl rfl (.p rfl (.s 88 rfl .nil) rfl (q_loadS rfl sh77 (leB rfl) rfl)) <| DKT.cons rfl rfl (.p rfl (.s 6 rfl .nil) rfl (q_field rfl fo29_1 rfl)) <| DKT.cons rfl rfl (.p rfl (.s 90 rfl .nil) rfl (q_load rfl sh27)) <| DKT.cons rfl rfl (.p rfl (.s 13 rfl .nil) rfl (q_move rfl)) ?_
        obtain ⟨c7410, h⟩ := ite_n h
        refine DKT.cons rfl rfl (.p rfl (.s 91 rfl (.s 92 rfl .nil)) rfl (q_index rfl el27 rfl c7410.1 c7410.2)) <| DKT.cons rfl rfl (.p rfl (.s 93 rfl .nil) rfl (q_loadS rfl sh77 (leB rfl) rfl)) <| DKT.nil <| CT.step ?_
        refine CTc.yes rfl ?_ ?_
        ·refine CStep1.w [] (fun _ => rfl) rfl rfl rfl rfl .nil rfl (w_alloc rfl z77 (l := [EqA (.int .i64 0), EqA (.int .i64 0), EqA (.int .i64 0)]) rfl) ?_
         rintro _ _ ⟨b7411, rfl, rfl⟩
         refine CT.list (l' := [11, 12, 13]) rfl <| CT.step ?_
         refine CTc.yes rfl ?_ ?_
         ·refine CStep1.w [] (fun _ => rfl) rfl rfl rfl rfl .nil rfl (w_alloc rfl z77 (l := [EqA (.int .i64 0), EqA (.int .i64 0), EqA (.int .i64 0)]) rfl) ?_
          rintro _ _ ⟨b7412, rfl, rfl⟩
          refine CT.list (l' := [12, 13]) rfl <| CT.step ?_
          refine CTc.yes rfl ?_ ?_
          ·refine CStep1.w0 [1] (fun h => absurd h (by decide)) rfl rfl rfl (.s 14 rfl (.s 89 rfl .nil)) rfl (w_store (L := [EqA (.int .i64 ((rd a1.fEdges x71).fType)), EqA (.int .i64 ((rd a1.fEdges x71).fFrom)), EqA (.int .i64 ((rd a1.fEdges x71).fTo))]) rfl sh77 (CellsOf.agg _) rfl rfl (leB rfl) rfl) ?_
           rintro _ _ ⟨rfl, rfl⟩
           refine CT.list (l' := [13]) rfl <| CT.step ?_
           refine CTc.yes rfl ?_ ?_
           ·refine CStep1.w0 [1] (fun h => absurd h (by decide)) rfl rfl rfl (.s 15 rfl (.s 94 rfl .nil)) rfl (w_store (L := [EqA (.int .i64 ((rd a2.fEdges (rd a3.fEdges x71)).fType)), EqA (.int .i64 ((rd a2.fEdges (rd a3.fEdges x71)).fFrom)), EqA (.int .i64 ((rd a2.fEdges (rd a3.fEdges x71)).fTo))]) rfl sh77 (CellsOf.agg _) rfl rfl (leB rfl) rfl) ?_
            rintro _ _ ⟨rfl, rfl⟩
            refine CT.list (l' := []) rfl <| CT.nil <| QN.to (StTo.still [1] 14 rfl rfl) <| QN.to (StTo.still [0] 15 rfl rfl) ?_
            exact QN.weaken (.one rfl (.one rfl (.one rfl (.one rfl (.one rfl (.one rfl (.one rfl (.one rfl (.nil _))))))))) (Kj7394 () h)
           exact CTc.end
          refine CTc.no rfl ?_
          exact CTc.end
         refine CTc.no rfl <| CTc.no rfl ?_
         exact CTc.end
        refine CTc.yes rfl ?_ ?_
        ·refine CStep1.w [] (fun _ => rfl) rfl rfl rfl rfl .nil rfl (w_alloc rfl z77 (l := [EqA (.int .i64 0), EqA (.int .i64 0), EqA (.int .i64 0)]) rfl) ?_
         rintro _ _ ⟨b7412, rfl, rfl⟩
         refine CT.list (l' := [10, 12, 13]) rfl <| CT.step ?_
         refine CTc.yes rfl ?_ ?_
         ·refine CStep1.w [] (fun _ => rfl) rfl rfl rfl rfl .nil rfl (w_alloc rfl z77 (l := [EqA (.int .i64 0), EqA (.int .i64 0), EqA (.int .i64 0)]) rfl) ?_
          rintro _ _ ⟨b7411, rfl, rfl⟩
          refine CT.list (l' := [12, 13]) rfl <| CT.step ?_
          refine CTc.yes rfl ?_ ?_
          ·refine CStep1.w0 [0] (fun h => absurd h (by decide)) rfl rfl rfl (.s 14 rfl (.s 89 rfl .nil)) rfl (w_store (L := [EqA (.int .i64 ((rd a1.fEdges x71).fType)), EqA (.int .i64 ((rd a1.fEdges x71).fFrom)), EqA (.int .i64 ((rd a1.fEdges x71).fTo))]) rfl sh77 (CellsOf.agg _) rfl rfl (leB rfl) rfl) ?_
           rintro _ _ ⟨rfl, rfl⟩
           refine CT.list (l' := [13]) rfl <| CT.step ?_
           refine CTc.yes rfl ?_ ?_
           ·refine CStep1.w0 [1] (fun h => absurd h (by decide)) rfl rfl rfl (.s 15 rfl (.s 94 rfl .nil)) rfl (w_store (L := [EqA (.int .i64 ((rd a2.fEdges (rd a3.fEdges x71)).fType)), EqA (.int .i64 ((rd a2.fEdges (rd a3.fEdges x71)).fFrom)), EqA (.int .i64 ((rd a2.fEdges (rd a3.fEdges x71)).fTo))]) rfl sh77 (CellsOf.agg _) rfl rfl (leB rfl) rfl) ?_
            rintro _ _ ⟨rfl, rfl⟩
            refine CT.list (l' := []) rfl <| CT.nil <| QN.to (StTo.still [1] 14 rfl rfl) <| QN.to (StTo.still [0] 15 rfl rfl) ?_
            exact QN.weaken (.one rfl (.one rfl (.one rfl (.one rfl (.one rfl (.one rfl (.one rfl (.one rfl (.nil _))))))))) (Kj7394 () h)
           exact CTc.end
          refine CTc.no rfl ?_
          exact CTc.end
         refine CTc.no rfl <| CTc.no rfl ?_
         exact CTc.end
        refine CTc.no rfl <| CTc.no rfl ?_
        exact CTc.end
     ·refine W.region <| WL.p rfl rfl rfl (.s 13 rfl .nil) (q_move rfl) <| WL.p rfl rfl rfl (.s 76 rfl (.k .nil)) (q_int rfl rfl) <| WL.p rfl rfl rfl (.s 77 rfl .nil) (q_move rfl) ?_
      rcases bif_s h with ⟨hb7413, h⟩ | ⟨hb7413, h⟩
      ·refine WL.skip (Unwanted.on rfl rfl rfl hb7413) rfl rfl <| WL.skip (Unwanted.on rfl rfl rfl hb7413) rfl rfl <| WL.skip (Unwanted.on rfl rfl rfl hb7413) rfl rfl <| WL.skip (Unwanted.on rfl rfl rfl hb7413) rfl rfl <| WL.skip (Unwanted.on rfl rfl rfl hb7413) rfl rfl <| WL.p rfl rfl rfl (.s 78 rfl (.k .nil)) (q_pickT rfl hb7413) <| WL.nil ?_
       exact QN.weaken (.one rfl (.one rfl (.one rfl (.one rfl (.one rfl (.one rfl (.one rfl (.one rfl (.one rfl (.nil _)))))))))) (Kj7383 () true h)
      ·refine WL.q (Wanted.on rfl rfl rfl hb7413) rfl rfl (.s 13 rfl .nil) (q_move rfl).o <| WL.q (Wanted.on rfl rfl rfl hb7413) rfl rfl (.s 6 rfl .nil) (q_field rfl fo29_1 rfl).o <| WL.q (Wanted.on rfl rfl rfl hb7413) rfl rfl (.s 80 rfl .nil) (q_load rfl sh27).o <| WL.q (Wanted.on rfl rfl rfl hb7413) rfl rfl (.s 81 rfl .nil) (q_len rfl elS27).o <| WL.q (Wanted.on rfl rfl rfl hb7413) rfl rfl (.s 79 rfl (.s 82 rfl .nil)) (q_int rfl rfl).o <| WL.p rfl rfl rfl (.s 78 rfl (.s 83 rfl .nil)) (q_pickF rfl hb7413) <| WL.nil ?_
       exact QN.weaken (.one rfl (.one rfl (.one rfl (.one rfl (.one rfl (.one rfl (.one rfl (.one rfl (.one rfl (.nil _)))))))))) (Kj7383 () (decide ((rd a3.fEdges x71) ≥ (a2.fEdges.length : Int))) h)
    ·refine W.exit <| QX.then_ <| QX.then_ <| QX.here <| QN.weaken (env' := []) (.nil _) <| QN.then_ <| W.seq <| W.region <| WL.p rfl rfl rfl (.k .nil) (q_assign rfl) <| WL.nil <| QN.then_ <| W.ret ?_
     cases h
     exact QR.f1 rfl rfl (.t rfl) (.id _)
 ·refine W.region <| WL.p rfl rfl rfl (.s 7 rfl .nil) (q_field rfl fo33_0 rfl) <| WL.p rfl rfl rfl (.s 16 rfl .nil) (q_load rfl sh26) <| WL.p rfl rfl rfl (.s 17 rfl .nil) (q_len rfl elS26) <| WL.p rfl rfl rfl (.s 5 rfl .nil) (q_field rfl fo29_0 rfl) <| WL.p rfl rfl rfl (.s 19 rfl .nil) (q_load rfl sh26) <| WL.p rfl rfl rfl (.s 20 rfl .nil) (q_len rfl elS26) <| WL.p rfl rfl rfl (.s 18 rfl (.s 21 rfl .nil)) (q_int rfl rfl) <| WL.p rfl rfl rfl (.s 22 rfl .nil) (q_move rfl) ?_
  rcases bif_s h with ⟨hb7414, h⟩ | ⟨hb7414, h⟩
  ·refine WL.skip (Unwanted.on rfl rfl rfl hb7414) rfl rfl <| WL.skip (Unwanted.on rfl rfl rfl hb7414) rfl rfl <| WL.skip (Unwanted.on rfl rfl rfl hb7414) rfl rfl <| WL.skip (Unwanted.on rfl rfl rfl hb7414) rfl rfl <| WL.skip (Unwanted.on rfl rfl rfl hb7414) rfl rfl <| WL.skip (Unwanted.on rfl rfl rfl hb7414) rfl rfl <| WL.skip (Unwanted.on rfl rfl rfl hb7414) rfl rfl <| WL.p rfl rfl rfl (.s 23 rfl (.k .nil)) (q_pickT rfl hb7414) <| WL.nil ?_
   exact QN.weaken (.one rfl (.one rfl (.one rfl (.one rfl (.one rfl (.nil _)))))) (Kj7033 () true h)
  ·refine WL.q (Wanted.on rfl rfl rfl hb7414) rfl rfl (.s 7 rfl .nil) (q_field rfl fo33_1 rfl).o <| WL.q (Wanted.on rfl rfl rfl hb7414) rfl rfl (.s 24 rfl .nil) (q_load rfl sh26).o <| WL.q (Wanted.on rfl rfl rfl hb7414) rfl rfl (.s 25 rfl .nil) (q_len rfl elS26).o <| WL.q (Wanted.on rfl rfl rfl hb7414) rfl rfl (.s 5 rfl .nil) (q_field rfl fo29_1 rfl).o <| WL.q (Wanted.on rfl rfl rfl hb7414) rfl rfl (.s 27 rfl .nil) (q_load rfl sh27).o <| WL.q (Wanted.on rfl rfl rfl hb7414) rfl rfl (.s 28 rfl .nil) (q_len rfl elS27).o <| WL.q (Wanted.on rfl rfl rfl hb7414) rfl rfl (.s 26 rfl (.s 29 rfl .nil)) (q_int rfl rfl).o <| WL.p rfl rfl rfl (.s 23 rfl (.s 30 rfl .nil)) (q_pickF rfl hb7414) <| WL.nil ?_
   exact QN.weaken (.one rfl (.one rfl (.one rfl (.one rfl (.one rfl (.nil _)))))) (Kj7033 () ((a3.fEdges.length : Int) != (a1.fEdges.length : Int)) h)
theorem slices_Clone_Edge.conN (k : Nat) (a0 : (List Edge)) (r : (List Edge)) (h : slices_Clone_Edge k a0 = some r) : Con Tryz.prog 38 [] [SlcA kEdge a0] (RApp 77 kEdge r) := by
  unfold slices_Clone_Edge at h
  obtain ⟨hl, h⟩ := ite_n h
  cases h
  refine Con.of (N := 8) Tryz.func38 rfl rfl rfl fun w0_ fg_ => ?_
  refine W.seq (W.region (WL.p rfl rfl rfl (.k .nil) (q_assign rfl) (WL.nil (QN.then_ ?_))))
  refine W.seq (W.seq (W.region (WL.p rfl rfl rfl (.s 0 rfl .nil) (q_move rfl) (WL.p rfl rfl rfl (.s 3 rfl .nil) (q_nilAny (kd := kEdge) (xs := a0) rfl elS27) (WL.nil (QN.then_ ?_))))))
  refine W.condAny rfl (fun hp => ?_) (fun _ => ?_)
  · have hn := hp rfl
    subst hn
    refine W.seq (W.region (WL.p rfl rfl rfl (.k .nil) (q_assign rfl) (WL.nil (QN.then_ ?_))))
    refine W.ret (QR.then_ ?_)
    refine QR.to (StTo.newNil 77 kEdge) ?_
    refine QR.to (StTo.as 2 rfl Imp.nilHd) ?_
    exact QR.tmp rfl rfl ⟨_, rfl, rfl⟩
  · refine W.skip (QN.then_ ?_)
    refine W.seq (W.region ?_)
    refine WL.p rfl rfl rfl .nil (q_lit0 rfl el27 gr77) ?_
    refine WL.p rfl rfl rfl (.s 0 rfl .nil) (q_move rfl) ?_
    refine WL.w [] rfl (Wanted.plain rfl) rfl rfl (.s 5 rfl (.s 6 rfl .nil)) (w_appendZ (kd := kEdge) rfl el27 rfl gr77 hl) ?_
    rintro _ _ ⟨v, rfl, rfl⟩
    refine WL.p rfl rfl rfl (.s 7 rfl .nil) (q_assign rfl) ?_
    refine WL.nil (QN.then_ ?_)
    refine W.ret ?_
    exact QR.tmp rfl rfl ⟨_, rfl, rfl⟩
theorem slices_Clone_Edge.con (k : Nat) (a0 : (List Edge)) (r : (List Edge)) (h : slices_Clone_Edge k a0 = some r) : Con Tryz.prog 38 [] [SlcA kEdge a0] (RA (SlcA kEdge r)) := Con.free (slices_Clone_Edge.conN k a0 r h)
theorem search_Instance.con (k : Nat) (a0 : Types) (a1 : Graph) (a2 : Graph) (a3 : Morphism) (r : (Graph × Int)) (h : search_Instance k a0 a1 a2 a3 = some r) : Con Tryz.prog 11 [] [AggA [SlcA kNodeType a0.fNodes, SlcA kEdgeType a0.fEdges], AggA [SlcA kInt a1.fNodes, SlcA kEdge a1.fEdges], AggA [SlcA kInt a2.fNodes, SlcA kEdge a2.fEdges], AggA [SlcA kInt a3.fNodes, SlcA kInt a3.fEdges]] (RA (TupA [AggA [SlcA kInt r.1.fNodes, SlcA kEdge r.1.fEdges], EqA (.int .i64 r.2)])) := by
 unfold search_Instance at h
 refine Con.of (N := 55) Tryz.func11 rfl rfl rfl fun w0_ fg_ => W.seq <| W.region <| WL.p rfl rfl rfl (.s 0 rfl .nil) (q_box rfl (CellsOf.agg _)) <| WL.p rfl rfl rfl (.s 1 rfl .nil) (q_box rfl (CellsOf.agg _)) <| WL.p rfl rfl rfl (.s 2 rfl .nil) (q_box rfl (CellsOf.agg _)) <| WL.p rfl rfl rfl (.s 3 rfl .nil) (q_box rfl (CellsOf.agg _)) <| WL.w [] rfl (Wanted.plain rfl) rfl rfl .nil (w_alloc rfl z29 (l := [EqA (.slice none 0 0), EqA (.slice none 0 0)]) rfl) ?_
 rintro _ _ ⟨b7415, rfl, rfl⟩
 refine WL.p rfl rfl rfl (.k .nil) (q_assign rfl) <| WL.nil <| QN.then_ <| W.seq <| W.seq <| W.region <| WL.p rfl rfl rfl (.s 4 rfl .nil) (q_loadS rfl sh25 (leB rfl) rfl) <| WL.p rfl rfl rfl (.s 5 rfl .nil) (q_loadS rfl sh29 (leB rfl) rfl) <| WL.p rfl rfl rfl (.s 6 rfl .nil) (q_loadS rfl sh29 (leB rfl) rfl) ?_
 obtain ⟨t7416, ht7416, h⟩ := bind_s h
 refine WL.p rfl rfl rfl (.s 15 rfl (.s 16 rfl (.s 17 rfl .nil))) (q_call (f := 36) (A := EqA (.int .i64 t7416)) (xs := [.tmp 15, .tmp 16, .tmp 17]) («as» := [AggA [SlcA kNodeType a0.fNodes, SlcA kEdgeType a0.fEdges], AggA [SlcA kInt a1.fNodes, SlcA kEdge a1.fEdges], AggA [SlcA kInt a2.fNodes, SlcA kEdge a2.fEdges]]) rfl ca36 (search_valid.con k a0 a1 a2 t7416 ht7416) rfl) <| WL.p rfl rfl rfl (.s 18 rfl .nil) (q_assign rfl) <| WL.nil <| QN.weaken (env' := [(10, _), (8, _), (7, _), (6, _), (5, _), (4, _)]) (.one rfl (.one rfl (.one rfl (.one rfl (.one rfl (.one rfl (.nil _))))))) <| QN.then_ <| W.seq <| W.region <| WL.p rfl rfl rfl (.s 10 rfl .nil) (q_move rfl) <| WL.p rfl rfl rfl (.s 19 rfl (.k .nil)) (q_int rfl rfl) <| WL.nil <| QN.then_ ?_
 refine W.condP h rfl (fun hb7417 h => ?_) (fun hb7417 h => ?_)
 ·refine W.seq <| W.region <| WL.p rfl rfl rfl .nil (q_build (is := []) (xs := []) (L := [EqA (.slice none 0 0), EqA (.slice none 0 0)]) rfl rfl z29 pl29 rfl rfl .nil rfl) <| WL.p rfl rfl rfl (.s 10 rfl .nil) (q_move rfl) <| WL.w0 [0] rfl (Wanted.plain rfl) rfl (.s 8 rfl (.s 21 rfl .nil)) (w_store (L := [EqA (.slice none 0 0), EqA (.slice none 0 0)]) rfl sh29 (CellsOf.agg _) rfl rfl (leB rfl) rfl) ?_
  rintro _ _ ⟨rfl, rfl⟩
  refine WL.p rfl rfl rfl (.s 22 rfl .nil) (q_assign rfl) <| WL.nil <| QN.weaken (env' := [(9, _), (8, _)]) (.one rfl (.one rfl (.nil _))) <| QN.then_ <| W.ret <| QR.then_ ?_
  cases h
  exact QR.f2 rfl rfl (.cs (i := 0) rfl sh29 rfl rfl) (.t rfl) (.imp (Imp.tup (.cons (Imp.agg (.cons (Imp.nil kInt) (.cons (Imp.nil kEdge) .nil))) (.cons (Imp.id _) .nil))))
 ·refine W.skip <| QN.then_ <| W.seq <| W.seq <| W.region <| WL.p rfl rfl rfl (.s 4 rfl .nil) (q_loadS rfl sh25 (leB rfl) rfl) <| WL.p rfl rfl rfl (.s 5 rfl .nil) (q_loadS rfl sh29 (leB rfl) rfl) <| WL.p rfl rfl rfl (.s 6 rfl .nil) (q_loadS rfl sh29 (leB rfl) rfl) <| WL.p rfl rfl rfl (.s 7 rfl .nil) (q_loadS rfl sh33 (leB rfl) rfl) ?_
  obtain ⟨t7418, ht7418, h⟩ := bind_s h
  refine WL.p rfl rfl rfl (.s 23 rfl (.s 24 rfl (.s 25 rfl (.s 26 rfl .nil)))) (q_call (f := 37) (A := EqA (.int .i64 t7418)) (xs := [.tmp 23, .tmp 24, .tmp 25, .tmp 26]) («as» := [AggA [SlcA kNodeType a0.fNodes, SlcA kEdgeType a0.fEdges], AggA [SlcA kInt a1.fNodes, SlcA kEdge a1.fEdges], AggA [SlcA kInt a2.fNodes, SlcA kEdge a2.fEdges], AggA [SlcA kInt a3.fNodes, SlcA kInt a3.fEdges]]) rfl ca37 (search_shape.con k a0 a1 a2 a3 t7418 ht7418) rfl) <| WL.p rfl rfl rfl (.s 27 rfl .nil) (q_assign rfl) <| WL.nil <| QN.weaken (env' := [(11, _), (8, _), (7, _), (6, _), (5, _)]) (.one rfl (.one rfl (.one rfl (.one rfl (.one rfl (.nil _)))))) <| QN.then_ <| W.seq <| W.region <| WL.p rfl rfl rfl (.s 11 rfl .nil) (q_move rfl) <| WL.p rfl rfl rfl (.s 28 rfl (.k .nil)) (q_int rfl rfl) <| WL.nil <| QN.then_ ?_
  refine W.condP h rfl (fun hb7419 h => ?_) (fun hb7419 h => ?_)
  ·refine W.seq <| W.region <| WL.p rfl rfl rfl .nil (q_build (is := []) (xs := []) (L := [EqA (.slice none 0 0), EqA (.slice none 0 0)]) rfl rfl z29 pl29 rfl rfl .nil rfl) <| WL.p rfl rfl rfl (.s 11 rfl .nil) (q_move rfl) <| WL.w0 [0] rfl (Wanted.plain rfl) rfl (.s 8 rfl (.s 30 rfl .nil)) (w_store (L := [EqA (.slice none 0 0), EqA (.slice none 0 0)]) rfl sh29 (CellsOf.agg _) rfl rfl (leB rfl) rfl) ?_
   rintro _ _ ⟨rfl, rfl⟩
   refine WL.p rfl rfl rfl (.s 31 rfl .nil) (q_assign rfl) <| WL.nil <| QN.weaken (env' := [(9, _), (8, _)]) (.one rfl (.one rfl (.nil _))) <| QN.then_ <| W.ret <| QR.then_ ?_
   cases h
   exact QR.f2 rfl rfl (.cs (i := 0) rfl sh29 rfl rfl) (.t rfl) (.imp (Imp.tup (.cons (Imp.agg (.cons (Imp.nil kInt) (.cons (Imp.nil kEdge) .nil))) (.cons (Imp.id _) .nil))))
  ·refine W.skip <| QN.then_ <| W.seq <| W.region <| WL.p rfl rfl rfl (.s 5 rfl .nil) (q_field rfl fo29_1 rfl) <| WL.p rfl rfl rfl (.s 32 rfl .nil) (q_load rfl sh27) ?_
   obtain ⟨t7420, ht7420, h⟩ := bind_s h
   refine WL.p rfl rfl rfl (.s 33 rfl .nil) (q_call (f := 38) (A := SlcA kEdge t7420) (xs := [.tmp 33]) («as» := [SlcA kEdge a1.fEdges]) rfl ca38 (slices_Clone_Edge.con k a1.fEdges t7420 ht7420) rfl) <| WL.p rfl rfl rfl (.s 34 rfl .nil) (q_build (is := [1]) (xs := [.tmp 34]) (L := [EqA (.slice none 0 0), SlcA kEdge t7420]) rfl rfl z29 pl29 rfl rfl (.cons (CellsOf.one rfl) .nil) rfl) <| WL.w [] rfl (Wanted.plain rfl) rfl rfl .nil (w_alloc rfl z29 (l := [EqA (.slice none 0 0), EqA (.slice none 0 0)]) rfl) ?_
   rintro _ _ ⟨b7421, rfl, rfl⟩
   refine WL.w0 [0] rfl (Wanted.plain rfl) rfl (.s 12 rfl (.s 35 rfl .nil)) (w_store (L := [EqA (.slice none 0 0), SlcA kEdge t7420]) rfl sh29 (CellsOf.agg _) rfl rfl (leB rfl) rfl) ?_
   rintro _ _ ⟨rfl, rfl⟩
   refine WL.nil <| QN.weaken (env' := [(12, _), (8, _), (7, _), (6, _)]) (.one rfl (.one rfl (.one rfl (.one rfl (.nil _))))) <| QN.then_ <| W.seq <| W.seq <| W.region <| WL.p rfl rfl rfl (.s 7 rfl .nil) (q_field rfl fo33_0 rfl) <| WL.p rfl rfl rfl (.s 36 rfl .nil) (q_load rfl sh26) <| WL.p rfl rfl rfl (.s 37 rfl .nil) (q_len rfl elS26) <| WL.p rfl rfl rfl (.k .nil) (q_move rfl) <| WL.nil <| QN.then_ <| W.block ?_
   refine W.to (StTo.boxImp [0] rfl (.cons Imp.nilHd (.cons (Imp.id _) .nil))) <| W.to (StTo.newNil 3 kInt) <| W.order [2, 1, 0] rfl ?_
   refine W.loop2 (Γ := Value) (fun (_ : Value) (_ : (List Int)) (x39 : Int) => [(6, PtrA [SlcA kInt a2.fNodes, SlcA kEdge a2.fEdges]), (8, EqA (.pointer (some ⟨b7415, 0, none⟩))), (12, EqA (.pointer (some ⟨b7421, 0, none⟩))), (37, SlcA kInt a3.fNodes), (38, EqA (.int .i64 (a3.fNodes.length : Int))), (39, EqA (.int .i64 x39))]) (fun (g0 : Value) (y0 : (List Int)) (_ : Int) => [BoxE b7415 [EqA (.slice none 0 0), EqA (.slice none 0 0)], BoxE b7421 [HdA g0, SlcA kEdge t7420], SlE 3 g0 kInt y0]) h (.slice none 0 0) (.one rfl (.one rfl (.one rfl (.one rfl (.one rfl (.one rfl (.nil _))))))) rfl (fun rec0 K0 next0 g0 y0 x39 h => ?_)
   unfold search_Instance.b0 at h
   refine W.seq <| W.region <| WL.p rfl rfl rfl (.s 39 rfl (.s 38 rfl .nil)) (q_int rfl rfl) <| WL.nil <| QN.then_ <| W.seq ?_
   refine W.condP h rfl (fun hb7453 h => ?_) (fun hb7453 h => ?_)
   ·refine W.skip <| QN.then_ <| W.seq <| W.block <| W.seq <| W.region ?_
    obtain ⟨c7454, h⟩ := ite_n h
    refine WL.p rfl rfl rfl (.s 37 rfl (.s 39 rfl .nil)) (q_index rfl el26 rfl c7454.1 c7454.2) <| WL.p rfl rfl rfl (.s 41 rfl .nil) (q_load rfl sh3) <| WL.p rfl rfl rfl (.s 42 rfl .nil) (q_assign rfl) <| WL.nil <| QN.then_ <| W.drawK [(0, false), (1, true), (2, false), (3, false), (4, false), (5, false), (6, false), (7, false)] [8, 9, 10] [[], [0], [], [2], [], [2, 3, 4], [2, 3, 4, 5], [2, 3, 4, 5, 6], [0, 1, 2, 3, 4, 5, 6, 7], [0, 1, 2, 3, 4, 5, 6, 7, 8], [0, 1, 2, 3, 4, 5, 6, 7, 8, 9]] mx (by kernel_rfl) <| DK.cons rfl rfl (.p rfl (.s 12 rfl .nil) rfl (q_fieldP rfl fo29_0)) <| DK.cons rfl rfl (.o rfl (.s 43 rfl .nil) rfl (q_loadB rfl sh26 (i := 1) rfl rfl)) <| DK.cons rfl rfl (.p rfl (.s 6 rfl .nil) rfl (q_field rfl fo29_0 rfl)) <| DK.cons rfl rfl (.p rfl (.s 45 rfl .nil) rfl (q_load rfl sh26)) <| DK.cons rfl rfl (.p rfl (.s 14 rfl .nil) rfl (q_move rfl)) ?_
    obtain ⟨c7461, h⟩ := ite_n h
    refine DK.cons rfl rfl (.p rfl (.s 46 rfl (.s 47 rfl .nil)) rfl (q_index rfl el26 rfl c7461.1 c7461.2)) <| DK.cons rfl rfl (.p rfl (.s 48 rfl .nil) rfl (q_load rfl sh3)) <| DK.cons rfl rfl (.p rfl (.s 49 rfl .nil) rfl (q_lit (kd := kInt) (ps := [(0, .tmp 49)]) (xs := [.tmp 49]) («as» := [EqA (.int .i64 (rd a2.fNodes (rd a3.fNodes x39)))]) (ys := [(rd a2.fNodes (rd a3.fNodes x39))]) rfl rfl el26 rfl gr3 rfl rfl rfl (.cons (CellsOf.one rfl) .nil))) ?_
    obtain ⟨c7462, h⟩ := ite_n h
    refine DK.nil <| CSteps.w [2] rfl rfl rfl rfl (.s 44 rfl (.s 50 rfl .nil)) rfl (w_append (kd := kInt) rfl el26 rfl gr3 c7462) ?_
    rintro _ _ ⟨v7463, rfl, rfl⟩
    refine CSteps.p rfl rfl rfl (.s 12 rfl .nil) rfl (q_fieldP rfl fo29_0) <| CSteps.w0 [2] rfl rfl rfl (.s 52 rfl (.s 51 rfl .nil)) rfl (w_store (L := [HdA v7463, SlcA kEdge t7420]) rfl sh26 (CellsOf.one rfl) rfl rfl (leB rfl) rfl) ?_
    rintro _ _ ⟨rfl, rfl⟩
    refine CSteps.nil <| QN.block <| QN.weaken (env' := [(39, _), (38, _), (37, _), (12, _), (8, _), (6, _)]) (.one rfl (.one rfl (.one rfl (.one rfl (.one rfl (.one rfl (.nil _))))))) <| QN.then_ <| W.region ?_
    obtain ⟨c7464, h⟩ := ite_n h
    refine WL.p rfl rfl rfl (.s 39 rfl (.k .nil)) (q_addR rfl c7464) <| WL.p rfl rfl rfl (.s 53 rfl .nil) (q_move rfl) <| WL.nil <| QN.order [2, 0, 0] rfl ?_
    exact next0 v7463 (y0 ++ [(rd a2.fNodes (rd a3.fNodes x39))]) (x39 + 1) _ h (.one rfl (.one rfl (.one rfl (.one rfl (.one rfl (.one rfl (.nil _)))))))
   ·refine W.exit <| QX.then_ <| QX.then_ <| QX.here <| QN.then_ <| W.seq <| W.region <| WL.q (Wanted.plain rfl) rfl rfl (.s 12 rfl .nil) (q_loadBS (l' := [HdA g0, SlcA kEdge t7420]) rfl sh29 (i := 1) rfl rfl rfl) <| WL.w0 [0] rfl (Wanted.plain rfl) rfl (.s 8 rfl (.s 54 rfl .nil)) (w_store (L := [HdA g0, SlcA kEdge t7420]) rfl sh29 (CellsOf.agg _) rfl rfl (leB rfl) rfl) ?_
    rintro _ _ ⟨rfl, rfl⟩
    refine WL.p rfl rfl rfl (.k .nil) (q_assign rfl) <| WL.nil <| QN.weaken (env' := [(9, _), (8, _)]) (.one rfl (.one rfl (.nil _))) <| QN.then_ <| W.ret ?_
    cases h
    exact QR.f2 rfl rfl (.cs (i := 0) rfl sh29 rfl rfl) (.t rfl) (.tup (.cons (.agg (.cons (.slc 2 rfl) (.cons (.id _) .nil))) (.cons (.id _) .nil)))
theorem ref05_SameInts.con (k : Nat) (a0 : (List Int)) (a1 : (List Int)) (r : Bool) (h : ref05_SameInts k a0 a1 = some r) : Con Tryz.prog 40 [] [SlcA kInt a0, SlcA kInt a1] (RA (EqA (.bool r))) := by
 unfold ref05_SameInts at h
 refine Con.of (N := 26) Tryz.func40 rfl rfl rfl fun w0_ fg_ => W.seq <| W.region <| WL.p rfl rfl rfl (.k .nil) (q_assign rfl) <| WL.nil <| QN.then_ <| W.seq <| W.seq <| W.region <| WL.p rfl rfl rfl (.s 0 rfl .nil) (q_move rfl) <| WL.p rfl rfl rfl (.s 6 rfl .nil) (q_len rfl elS26) <| WL.p rfl rfl rfl (.s 1 rfl .nil) (q_move rfl) <| WL.p rfl rfl rfl (.s 8 rfl .nil) (q_len rfl elS26) ?_
 refine WL.p rfl rfl rfl (.s 7 rfl (.s 9 rfl .nil)) (q_int rfl rfl) <| WL.nil <| QN.then_ ?_
 refine W.condP h rfl (fun hb7465 h => ?_) (fun hb7465 h => ?_)
 ·refine W.seq <| W.region <| WL.p rfl rfl rfl (.k .nil) (q_assign rfl) <| WL.nil <| QN.weaken (env' := [(4, _)]) (.one rfl (.nil _)) <| QN.then_ <| W.ret <| QR.then_ ?_
  cases h
  exact QR.f1 rfl rfl (.t rfl) (.id _)
 ·refine W.skip <| QN.then_ <| W.seq <| W.seq <| W.region <| WL.p rfl rfl rfl (.k .nil) (q_assign rfl) <| WL.nil <| QN.then_ <| W.block ?_
  refine W.loop1 (Γ := Unit) (fun (_ : Unit) (x5 : Int) => [(0, SlcA kInt a0), (1, SlcA kInt a1), (5, EqA (.int .i64 x5))]) (fun (_ : Unit) (_ : Int) => []) h () (.one rfl (.one rfl (.one rfl (.nil _)))) rfl (fun rec0 K0 next0 _ x5 h => ?_)
  unfold ref05_SameInts.b0 at h
  refine W.seq <| W.seq <| W.region <| WL.p rfl rfl rfl (.s 5 rfl .nil) (q_move rfl) <| WL.p rfl rfl rfl (.s 0 rfl .nil) (q_move rfl) <| WL.p rfl rfl rfl (.s 12 rfl .nil) (q_len rfl elS26) <| WL.p rfl rfl rfl (.s 11 rfl (.s 13 rfl .nil)) (q_int rfl rfl) <| WL.nil <| QN.then_ ?_
  refine W.condP h rfl (fun hb7484 h => ?_) (fun hb7484 h => ?_)
  ·refine W.skip <| QN.then_ <| W.seq <| W.block <| W.seq <| W.drawK [(0, false), (1, false), (2, false), (3, false), (4, false), (5, false), (6, false), (7, false), (8, false)] [] [[], [], [0, 1], [0, 1, 2], [], [], [4, 5], [4, 5, 6], [0, 1, 2, 3, 4, 5, 6, 7]] mx (by kernel_rfl) <| DK.cons rfl rfl (.p rfl (.s 0 rfl .nil) rfl (q_move rfl)) <| DK.cons rfl rfl (.p rfl (.s 5 rfl .nil) rfl (q_move rfl)) ?_
   obtain ⟨c7489, h⟩ := ite_n h
   refine DK.cons rfl rfl (.p rfl (.s 17 rfl (.s 18 rfl .nil)) rfl (q_index rfl el26 rfl c7489.1 c7489.2)) <| DK.cons rfl rfl (.p rfl (.s 19 rfl .nil) rfl (q_load rfl sh3)) <| DK.cons rfl rfl (.p rfl (.s 1 rfl .nil) rfl (q_move rfl)) <| DK.cons rfl rfl (.p rfl (.s 5 rfl .nil) rfl (q_move rfl)) ?_
   obtain ⟨c7490, h⟩ := ite_n h
   refine DK.cons rfl rfl (.p rfl (.s 21 rfl (.s 22 rfl .nil)) rfl (q_index rfl el26 rfl c7490.1 c7490.2)) <| DK.cons rfl rfl (.p rfl (.s 23 rfl .nil) rfl (q_load rfl sh3)) <| DK.cons rfl rfl (.p rfl (.s 20 rfl (.s 24 rfl .nil)) rfl (q_int rfl rfl)) <| DK.nil <| CSteps.nil <| QN.weaken (env' := [(25, _), (5, _), (1, _), (0, _)]) (.one rfl (.one rfl (.one rfl (.one rfl (.nil _))))) <| QN.then_ ?_
   refine W.condP h rfl (fun hb7491 h => ?_) (fun hb7491 h => ?_)
   ·refine W.seq <| W.region <| WL.p rfl rfl rfl (.k .nil) (q_assign rfl) <| WL.nil <| QN.then_ <| W.ret <| QR.block <| QR.then_ <| QR.then_ <| QR.block <| QR.then_ ?_
    cases h
    exact QR.f1 rfl rfl (.t rfl) (.id _)
   ·refine W.skip <| QN.block <| QN.then_ <| W.region <| WL.p rfl rfl rfl (.s 5 rfl .nil) (q_move rfl) ?_
    obtain ⟨c7492, h⟩ := ite_n h
    refine WL.p rfl rfl rfl (.s 15 rfl (.k .nil)) (q_addR rfl c7492) <| WL.p rfl rfl rfl (.s 16 rfl .nil) (q_assign rfl) <| WL.nil ?_
    exact next0 () (x5 + 1) _ h (.one rfl (.one rfl (.one rfl (.nil _))))
  ·refine W.exit <| QX.then_ <| QX.then_ <| QX.here <| QN.weaken (env' := []) (.nil _) <| QN.then_ <| W.seq <| W.region <| WL.p rfl rfl rfl (.k .nil) (q_assign rfl) <| WL.nil <| QN.then_ <| W.ret ?_
   cases h
   exact QR.f1 rfl rfl (.t rfl) (.id _)
theorem ref17_SameAll.con (k : Nat) (a0 : (List Morphism)) (a1 : (List Morphism)) (r : Bool) (h : ref17_SameAll k a0 a1 = some r) : Con Tryz.prog 20 [] [SlcA kMorphism a0, SlcA kMorphism a1] (RA (EqA (.bool r))) := by
 unfold ref17_SameAll at h
 refine Con.of (N := 43) Tryz.func20 rfl rfl rfl fun w0_ fg_ => W.seq <| W.region <| WL.p rfl rfl rfl (.k .nil) (q_assign rfl) <| WL.nil <| QN.then_ <| W.seq <| W.seq <| W.region <| WL.p rfl rfl rfl (.s 0 rfl .nil) (q_move rfl) <| WL.p rfl rfl rfl (.s 6 rfl .nil) (q_len rfl elS46) <| WL.p rfl rfl rfl (.s 1 rfl .nil) (q_move rfl) <| WL.p rfl rfl rfl (.s 8 rfl .nil) (q_len rfl elS46) ?_
 refine WL.p rfl rfl rfl (.s 7 rfl (.s 9 rfl .nil)) (q_int rfl rfl) <| WL.nil <| QN.then_ ?_
 refine W.condP h rfl (fun hb7493 h => ?_) (fun hb7493 h => ?_)
 ·refine W.seq <| W.region <| WL.p rfl rfl rfl (.k .nil) (q_assign rfl) <| WL.nil <| QN.weaken (env' := [(4, _)]) (.one rfl (.nil _)) <| QN.then_ <| W.ret <| QR.then_ ?_
  cases h
  exact QR.f1 rfl rfl (.t rfl) (.id _)
 ·refine W.skip <| QN.then_ <| W.seq <| W.seq <| W.region <| WL.p rfl rfl rfl (.k .nil) (q_assign rfl) <| WL.nil <| QN.then_ <| W.block ?_
  refine W.loop1 (Γ := Unit) (fun (_ : Unit) (x5 : Int) => [(0, SlcA kMorphism a0), (1, SlcA kMorphism a1), (5, EqA (.int .i64 x5))]) (fun (_ : Unit) (_ : Int) => []) h () (.one rfl (.one rfl (.one rfl (.nil _)))) rfl (fun rec0 K0 next0 _ x5 h => ?_)
  unfold ref17_SameAll.b0 at h
  refine W.seq <| W.seq <| W.region <| WL.p rfl rfl rfl (.s 5 rfl .nil) (q_move rfl) <| WL.p rfl rfl rfl (.s 0 rfl .nil) (q_move rfl) <| WL.p rfl rfl rfl (.s 12 rfl .nil) (q_len rfl elS46) <| WL.p rfl rfl rfl (.s 11 rfl (.s 13 rfl .nil)) (q_int rfl rfl) <| WL.nil <| QN.then_ ?_
  refine W.condP h rfl (fun hb7546 h => ?_) (fun hb7546 h => ?_)
  ·refine W.skip <| QN.then_ <| W.seq <| W.block <| W.seq ?_
   refine W.jn1 (Γ := Unit) (fun (_ : Unit) (x42 : Bool) => [(0, SlcA kMorphism a0), (1, SlcA kMorphism a1), (5, EqA (.int .i64 x5)), (42, EqA (.bool x42))]) (fun (_ : Unit) (_ : Bool) => []) h (fun _ x42 h => ?_) (fun j7562 Kj7562 h => ?_)
   ·refine QN.then_ ?_
    refine W.condP h rfl (fun hb7563 h => ?_) (fun hb7563 h => ?_)
    ·refine W.seq <| W.region <| WL.p rfl rfl rfl (.k .nil) (q_assign rfl) <| WL.nil <| QN.then_ <| W.ret <| QR.block <| QR.then_ <| QR.then_ <| QR.block <| QR.then_ ?_
     cases h
     exact QR.f1 rfl rfl (.t rfl) (.id _)
    ·refine W.skip <| QN.block <| QN.then_ <| W.region <| WL.p rfl rfl rfl (.s 5 rfl .nil) (q_move rfl) ?_
     obtain ⟨c7564, h⟩ := ite_n h
     refine WL.p rfl rfl rfl (.s 15 rfl (.k .nil)) (q_addR rfl c7564) <| WL.p rfl rfl rfl (.s 16 rfl .nil) (q_assign rfl) <| WL.nil ?_
     exact next0 () (x5 + 1) _ h (.one rfl (.one rfl (.one rfl (.nil _))))
   ·refine W.drawK [(0, false), (1, false), (2, false), (3, false), (4, false), (5, false), (6, false), (7, false), (8, false), (9, false), (10, false), (11, false), (12, false), (13, false), (14, false), (15, false), (16, false), (17, false), (18, false), (19, false), (20, false), (21, false), (22, false), (23, false), (24, false), (25, false)] [] [[], [], [0, 1], [0, 1, 2], [0, 1, 2, 3], [], [], [5, 6], [5, 6, 7], [5, 6, 7, 8], [0, 1, 2, 3, 4, 5, 6, 7, 8, 9], [0, 1, 2, 3, 4, 5, 6, 7, 8, 9, 10], [0, 1, 2, 3, 4, 5, 6, 7, 8, 9, 10, 11], [0, 1, 2, 3, 4, 5, 6, 7, 8, 9, 10, 11, 12], [0, 1, 2, 3, 4, 5, 6, 7, 8, 9, 10, 11, 12], [0, 1, 2, 3, 4, 5, 6, 7, 8, 9, 10, 11, 12, 13, 14], [0, 1, 2, 3, 4, 5, 6, 7, 8, 9, 10, 11, 12, 13, 14, 15], [0, 1, 2, 3, 4, 5, 6, 7, 8, 9, 10, 11, 12, 13, 14, 15, 16], [0, 1, 2, 3, 4, 5, 6, 7, 8, 9, 10, 11, 12], [0, 1, 2, 3, 4, 5, 6, 7, 8, 9, 10, 11, 12], [0, 1, 2, 3, 4, 5, 6, 7, 8, 9, 10, 11, 12, 18, 19], [0, 1, 2, 3, 4, 5, 6, 7, 8, 9, 10, 11, 12, 18, 19, 20], [0, 1, 2, 3, 4, 5, 6, 7, 8, 9, 10, 11, 12, 18, 19, 20, 21], [0, 1, 2, 3, 4, 5, 6, 7, 8, 9, 10, 11, 12, 13, 14, 15, 16, 17, 18, 19, 20, 21, 22], [0, 1, 2, 3, 4, 5, 6, 7, 8, 9, 10, 11, 12, 13, 14, 15, 16, 17, 18, 19, 20, 21, 22, 23], [0, 1, 2, 3, 4, 5, 6, 7, 8, 9, 10, 11, 12, 13, 14, 15, 16, 17, 18, 19, 20, 21, 22, 23, 24]] mx (by kernel_rfl) <| DK.cons rfl rfl (.p rfl (.s 0 rfl .nil) rfl (q_move rfl)) <| DK.cons rfl rfl (.p rfl (.s 5 rfl .nil) rfl (q_move rfl)) ?_
    obtain ⟨c7565, h⟩ := ite_n h
    refine DK.cons rfl rfl (.p rfl (.s 17 rfl (.s 18 rfl .nil)) rfl (q_index rfl el46 rfl c7565.1 c7565.2)) <| DK.cons rfl rfl (.p rfl (.s 19 rfl .nil) rfl (q_field rfl fo33_0 rfl)) <| DK.cons rfl rfl (.p rfl (.s 20 rfl .nil) rfl (q_load rfl sh26)) <| DK.cons rfl rfl (.p rfl (.s 1 rfl .nil) rfl (q_move rfl)) <| DK.cons rfl rfl (.p rfl (.s 5 rfl .nil) rfl (q_move rfl)) ?_
    obtain ⟨c7566, h⟩ := ite_n h
    refine DK.cons rfl rfl (.p rfl (.s 22 rfl (.s 23 rfl .nil)) rfl (q_index rfl el46 rfl c7566.1 c7566.2)) <| DK.cons rfl rfl (.p rfl (.s 24 rfl .nil) rfl (q_field rfl fo33_0 rfl)) <| DK.cons rfl rfl (.p rfl (.s 25 rfl .nil) rfl (q_load rfl sh26)) ?_
    obtain ⟨t7567, ht7567, h⟩ := bind_s h
    refine DK.cons rfl rfl (.p rfl (.s 21 rfl (.s 26 rfl .nil)) rfl (q_call (f := 40) (A := EqA (.bool t7567)) (xs := [.tmp 21, .tmp 26]) («as» := [SlcA kInt ((rd a0 x5).fNodes), SlcA kInt ((rd a1 x5).fNodes)]) rfl ca40 (ref05_SameInts.con k ((rd a0 x5).fNodes) ((rd a1 x5).fNodes) t7567 ht7567) rfl)) <| DK.cons rfl rfl (.p rfl (.s 27 rfl .nil) rfl (q_not rfl)) <| DK.cons rfl rfl (.p rfl (.s 28 rfl .nil) rfl (q_move rfl)) ?_
    rcases bif_s h with ⟨hb7568, h⟩ | ⟨hb7568, h⟩
    ·refine DK.cons rfl rfl (.off rfl rfl rfl hb7568) <| DK.cons rfl rfl (.off rfl rfl rfl hb7568) <| DK.cons rfl rfl (.off rfl rfl rfl hb7568) <| DK.cons rfl rfl (.off rfl rfl rfl hb7568) <| DK.cons rfl rfl (.off rfl rfl rfl hb7568) <| DK.cons rfl rfl (.off rfl rfl rfl hb7568) <| DK.cons rfl rfl (.off rfl rfl rfl hb7568) <| DK.cons rfl rfl (.off rfl rfl rfl hb7568) <| DK.cons rfl rfl (.off rfl rfl rfl hb7568) <| DK.cons rfl rfl (.off rfl rfl rfl hb7568) <| DK.cons rfl rfl (.off rfl rfl rfl hb7568) <| DK.cons rfl rfl (.off rfl rfl rfl hb7568) <| DK.cons rfl rfl (.p rfl (.s 29 rfl (.k .nil)) rfl (q_pickT rfl hb7568)) ?_
     refine DK.nil <| CSteps.nil ?_
     exact QN.weaken (.one rfl (.one rfl (.one rfl (.one rfl (.nil _))))) (Kj7562 () true h)
    ·refine DK.cons rfl rfl (.gp rfl rfl rfl hb7568 (.s 0 rfl .nil) rfl (q_move rfl)) <| DK.cons rfl rfl (.gp rfl rfl rfl hb7568 (.s 5 rfl .nil) rfl (q_move rfl)) ?_
     obtain ⟨c7569, h⟩ := ite_n h
     refine DK.cons rfl rfl (.gp rfl rfl rfl hb7568 (.s 30 rfl (.s 31 rfl .nil)) rfl (q_index rfl el46 rfl c7569.1 c7569.2)) <| DK.cons rfl rfl (.gp rfl rfl rfl hb7568 (.s 32 rfl .nil) rfl (q_field rfl fo33_1 rfl)) <| DK.cons rfl rfl (.gp rfl rfl rfl hb7568 (.s 33 rfl .nil) rfl (q_load rfl sh26)) <| DK.cons rfl rfl (.gp rfl rfl rfl hb7568 (.s 1 rfl .nil) rfl (q_move rfl)) <| DK.cons rfl rfl (.gp rfl rfl rfl hb7568 (.s 5 rfl .nil) rfl (q_move rfl)) ?_
     obtain ⟨c7570, h⟩ := ite_n h
     refine DK.cons rfl rfl (.gp rfl rfl rfl hb7568 (.s 35 rfl (.s 36 rfl .nil)) rfl (q_index rfl el46 rfl c7570.1 c7570.2)) <| DK.cons rfl rfl (.gp rfl rfl rfl hb7568 (.s 37 rfl .nil) rfl (q_field rfl fo33_1 rfl)) <| DK.cons rfl rfl (.gp rfl rfl rfl hb7568 (.s 38 rfl .nil) rfl (q_load rfl sh26)) ?_
     obtain ⟨t7571, ht7571, h⟩ := bind_s h
     refine DK.cons rfl rfl (.gp rfl rfl rfl hb7568 (.s 34 rfl (.s 39 rfl .nil)) rfl (q_call (f := 40) (A := EqA (.bool t7571)) (xs := [.tmp 34, .tmp 39]) («as» := [SlcA kInt ((rd a0 x5).fEdges), SlcA kInt ((rd a1 x5).fEdges)]) rfl ca40 (ref05_SameInts.con k ((rd a0 x5).fEdges) ((rd a1 x5).fEdges) t7571 ht7571) rfl)) <| DK.cons rfl rfl (.gp rfl rfl rfl hb7568 (.s 40 rfl .nil) rfl (q_not rfl)) <| DK.cons rfl rfl (.p rfl (.s 29 rfl (.s 41 rfl .nil)) rfl (q_pickF rfl hb7568)) <| DK.nil <| CSteps.nil ?_
     exact QN.weaken (.one rfl (.one rfl (.one rfl (.one rfl (.nil _))))) (Kj7562 () (!t7571) h)
  ·refine W.exit <| QX.then_ <| QX.then_ <| QX.here <| QN.weaken (env' := []) (.nil _) <| QN.then_ <| W.seq <| W.region <| WL.p rfl rfl rfl (.k .nil) (q_assign rfl) <| WL.nil <| QN.then_ <| W.ret ?_
   cases h
   exact QR.f1 rfl rfl (.t rfl) (.id _)
end Go.Proofs.YtelpgjfojhcjcaaGreat
