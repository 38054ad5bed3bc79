/- The Go functions compute the pure ones. (Printed by gen.py.) -/
import Derived.Test.YtcgdfjpeboiioaaGreatC4
namespace Go.Proofs.YtcgdfjpeboiioaaGreat
open Go Go.Abs
attribute [local irreducible] Tryz.prog
theorem host_Valid.con (k : Nat) (a0 : Types) (a1 : Host) (r : (Int × Int)) (h : host_Valid k a0 a1 = some r) : Con Tryz.prog 118 [] [AggA [SlcA kNodeType a0.fNodes, SlcA kEdgeType a0.fEdges], AggA [SlcA kInt a1.fGraph.fNodes, SlcA kEdge a1.fGraph.fEdges, SlcA (kSl kInt) a1.fValues]] (RA (TupA [EqA (.int .i64 r.1), EqA (.int .i64 r.2)])) := by
 unfold host_Valid at h
 refine Con.of (N := 95) Tryz.func118 rfl rfl rfl fun w0_ fg_ => W.seq <| W.region <| WL.p rfl rfl rfl (.s 0 rfl .nil) (q_box rfl (CellsOf.agg _)) <| WL.p rfl rfl rfl (.s 1 rfl .nil) (q_box rfl (CellsOf.agg _)) <| WL.p rfl rfl rfl (.k .nil) (q_assign rfl) <| WL.p rfl rfl rfl (.k .nil) (q_assign rfl) <| WL.nil <| QN.then_ <| W.seq <| W.seq <| W.region <| WL.p rfl rfl rfl (.s 2 rfl .nil) (q_loadS rfl sh35 (leB rfl) rfl) ?_
 obtain ⟨t871, ht871, h⟩ := bind_s h
 refine WL.p rfl rfl rfl (.s 15 rfl .nil) (q_call (f := 49) (A := TupA [EqA (strV t871.1), EqA (.int .i64 t871.2)]) (xs := [.tmp 15]) («as» := [AggA [SlcA kNodeType a0.fNodes, SlcA kEdgeType a0.fEdges]]) rfl ca49 (types_Valid.con k a0 t871 ht871) rfl) <| WL.p rfl rfl rfl (.s 16 rfl .nil) (q_move rfl) <| WL.p rfl rfl rfl (.s 14 rfl .nil) (q_extract rfl rfl) <| WL.p rfl rfl rfl (.s 14 rfl .nil) (q_extract rfl rfl) <| WL.p rfl rfl rfl (.s 17 rfl .nil) (q_assign rfl) <| WL.p rfl rfl rfl (.s 18 rfl .nil) (q_assign rfl) <| WL.nil <| QN.weaken (env' := [(7, _), (3, _), (2, _)]) (.one rfl (.one rfl (.one rfl (.nil _)))) <| QN.then_ <| W.seq <| W.region <| WL.p rfl rfl rfl (.s 7 rfl .nil) (q_move rfl) <| WL.p rfl rfl rfl (.s 19 rfl (.k .nil)) (q_int rfl rfl) ?_
 refine WL.nil <| QN.then_ ?_
 refine W.condP h rfl (fun hb872 h => ?_) (fun hb872 h => ?_)
 ·refine W.seq <| W.region <| WL.p rfl rfl rfl (.s 7 rfl .nil) (q_move rfl) <| WL.p rfl rfl rfl (.k .nil) (q_assign rfl) <| WL.p rfl rfl rfl (.s 21 rfl .nil) (q_assign rfl) <| WL.nil <| QN.then_ <| W.ret <| QR.then_ ?_
  cases h
  exact QR.f2 rfl rfl (.t rfl) (.t rfl) (.id _)
 ·refine W.skip <| QN.then_ <| W.seq <| W.seq <| W.region <| WL.p rfl rfl rfl (.s 3 rfl .nil) (q_field rfl fo60_0 rfl) <| WL.p rfl rfl rfl (.s 22 rfl .nil) (q_loadS rfl sh38 (leB rfl) rfl) ?_
  obtain ⟨t873, ht873, h⟩ := bind_s h
  refine WL.p rfl rfl rfl (.s 23 rfl .nil) (q_call (f := 50) (A := EqA (.int .i64 t873)) (xs := [.tmp 23]) («as» := [AggA [SlcA kInt a1.fGraph.fNodes, SlcA kEdge a1.fGraph.fEdges]]) rfl ca50 (graph_Valid.con k a1.fGraph t873 ht873) rfl) <| WL.p rfl rfl rfl (.s 24 rfl .nil) (q_assign rfl) <| WL.nil <| QN.then_ <| W.seq <| W.region <| WL.p rfl rfl rfl (.s 8 rfl .nil) (q_move rfl) <| WL.p rfl rfl rfl (.s 25 rfl (.k .nil)) (q_int rfl rfl) <| WL.nil <| QN.weaken (env' := [(26, _), (8, _), (3, _), (2, _)]) (.one rfl (.one rfl (.one rfl (.one rfl (.nil _))))) <| QN.then_ ?_
  refine W.condP h rfl (fun hb874 h => ?_) (fun hb874 h => ?_)
  ·refine W.seq <| W.region <| WL.p rfl rfl rfl (.s 8 rfl .nil) (q_move rfl) <| WL.p rfl rfl rfl (.k .nil) (q_assign rfl) <| WL.p rfl rfl rfl (.s 27 rfl .nil) (q_assign rfl) <| WL.nil <| QN.then_ <| W.ret <| QR.then_ ?_
   cases h
   exact QR.f2 rfl rfl (.t rfl) (.t rfl) (.id _)
  ·refine W.skip <| QN.then_ <| W.seq <| W.seq <| W.region <| WL.p rfl rfl rfl (.s 3 rfl .nil) (q_field rfl fo60_1 rfl) <| WL.p rfl rfl rfl (.s 28 rfl .nil) (q_load rfl sh58) <| WL.p rfl rfl rfl (.s 29 rfl .nil) (q_len rfl elS58) <| WL.p rfl rfl rfl (.s 3 rfl .nil) (q_field rfl fo60_0 rfl) <| WL.p rfl rfl rfl (.s 31 rfl .nil) (q_field rfl fo38_0 rfl) <| WL.p rfl rfl rfl (.s 32 rfl .nil) (q_load rfl sh26) <| WL.p rfl rfl rfl (.s 33 rfl .nil) (q_len rfl elS26) <| WL.p rfl rfl rfl (.s 30 rfl (.s 34 rfl .nil)) (q_int rfl rfl) ?_
   refine WL.nil <| QN.weaken (env' := [(35, _), (3, _), (2, _)]) (.one rfl (.one rfl (.one rfl (.nil _)))) <| QN.then_ ?_
   refine W.condP h rfl (fun hb875 h => ?_) (fun hb875 h => ?_)
   ·refine W.seq <| W.region <| WL.p rfl rfl rfl (.k .nil) (q_assign rfl) <| WL.p rfl rfl rfl (.k .nil) (q_assign rfl) <| WL.nil <| QN.then_ <| W.ret <| QR.then_ ?_
    cases h
    exact QR.f2 rfl rfl (.t rfl) (.t rfl) (.id _)
   ·refine W.skip <| QN.then_ <| W.seq <| W.seq <| W.region <| WL.p rfl rfl rfl (.s 3 rfl .nil) (q_field rfl fo60_0 rfl) <| WL.p rfl rfl rfl (.s 36 rfl .nil) (q_field rfl fo38_0 rfl) <| WL.p rfl rfl rfl (.s 37 rfl .nil) (q_load rfl sh26) <| WL.p rfl rfl rfl (.s 38 rfl .nil) (q_len rfl elS26) <| WL.p rfl rfl rfl (.k .nil) (q_move rfl) <| WL.nil <| QN.then_ <| W.block ?_
    refine W.loop1 (Γ := Unit) (fun (_ : Unit) (x40 : Int) => [(2, PtrA [SlcA kNodeType a0.fNodes, SlcA kEdgeType a0.fEdges]), (3, PtrA [SlcA kInt a1.fGraph.fNodes, SlcA kEdge a1.fGraph.fEdges, SlcA (kSl kInt) a1.fValues]), (38, SlcA kInt a1.fGraph.fNodes), (39, EqA (.int .i64 (a1.fGraph.fNodes.length : Int))), (40, EqA (.int .i64 x40))]) (fun (_ : Unit) (_ : Int) => []) h () (.one rfl (.one rfl (.one rfl (.one rfl (.one rfl (.nil _)))))) rfl (fun rec0 K0 next0 _ x40 h => ?_)
    unfold host_Valid.b0 at h
    refine W.seq <| W.region <| WL.p rfl rfl rfl (.s 40 rfl (.s 39 rfl .nil)) (q_int rfl rfl) <| WL.nil <| QN.then_ <| W.seq ?_
    refine W.condP h rfl (fun hb986 h => ?_) (fun hb986 h => ?_)
    ·refine W.skip <| QN.then_ <| W.seq <| W.block <| W.seq <| W.region <| WL.p rfl rfl rfl (.s 40 rfl .nil) (q_move rfl) ?_
     obtain ⟨c987, h⟩ := ite_n h
     refine WL.p rfl rfl rfl (.s 38 rfl (.s 40 rfl .nil)) (q_index rfl el26 rfl c987.1 c987.2) <| WL.p rfl rfl rfl (.s 43 rfl .nil) (q_load rfl sh3) <| WL.p rfl rfl rfl (.s 42 rfl .nil) (q_assign rfl) <| WL.p rfl rfl rfl (.s 44 rfl .nil) (q_assign rfl) <| WL.nil <| QN.then_ <| W.seq <| W.drawK [(0, false), (1, false), (2, false), (3, false), (4, false), (5, false), (6, false), (7, false), (8, false)] [] [[], [], [], [2], [], [2, 3, 4], [2, 3, 4, 5], [0, 1, 2, 3, 4, 5, 6], [0, 1, 2, 3, 4, 5, 6, 7]] mx (by kernel_rfl) <| DK.cons rfl rfl (.p rfl (.s 2 rfl .nil) rfl (q_loadS rfl sh35 (leB rfl) rfl)) <| DK.cons rfl rfl (.p rfl (.s 10 rfl .nil) rfl (q_move rfl)) <| DK.cons rfl rfl (.p rfl (.s 3 rfl .nil) rfl (q_field rfl fo60_1 rfl)) <| DK.cons rfl rfl (.p rfl (.s 47 rfl .nil) rfl (q_load rfl sh58)) <| DK.cons rfl rfl (.p rfl (.s 9 rfl .nil) rfl (q_move rfl)) ?_
     obtain ⟨c992, h⟩ := ite_n h
     refine DK.cons rfl rfl (.p rfl (.s 48 rfl (.s 49 rfl .nil)) rfl (q_index rfl el58 rfl c992.1 c992.2)) <| DK.cons rfl rfl (.p rfl (.s 50 rfl .nil) rfl (q_load rfl sh26)) ?_
     obtain ⟨t993, ht993, h⟩ := bind_s h
     refine DK.cons rfl rfl (.p rfl (.s 45 rfl (.s 46 rfl (.s 51 rfl .nil))) rfl (q_call (f := 156) (A := EqA (.int .i64 t993)) (xs := [.tmp 45, .tmp 46, .tmp 51]) («as» := [AggA [SlcA kNodeType a0.fNodes, SlcA kEdgeType a0.fEdges], EqA (.int .i64 (rd a1.fGraph.fNodes x40)), SlcA kInt (rd a1.fValues x40)]) rfl ca156 (host_node.con k a0 (rd a1.fGraph.fNodes x40) (rd a1.fValues x40) t993 ht993) rfl)) <| DK.cons rfl rfl (.p rfl (.s 52 rfl .nil) rfl (q_assign rfl)) <| DK.nil <| CSteps.nil <| QN.weaken (env' := [(11, _), (9, _), (40, _), (39, _), (38, _), (3, _), (2, _)]) (.one rfl (.one rfl (.one rfl (.one rfl (.one rfl (.one rfl (.one rfl (.nil _)))))))) <| QN.then_ <| W.seq <| W.region <| WL.p rfl rfl rfl (.s 11 rfl .nil) (q_move rfl) <| WL.p rfl rfl rfl (.s 53 rfl (.k .nil)) (q_int rfl rfl) <| WL.nil <| QN.then_ ?_
     refine W.condP h rfl (fun hb994 h => ?_) (fun hb994 h => ?_)
     ·refine W.seq <| W.region <| WL.p rfl rfl rfl (.s 9 rfl .nil) (q_move rfl) <| WL.p rfl rfl rfl (.s 11 rfl .nil) (q_move rfl) <| WL.p rfl rfl rfl (.s 55 rfl .nil) (q_assign rfl) <| WL.p rfl rfl rfl (.s 56 rfl .nil) (q_assign rfl) <| WL.nil <| QN.weaken (env' := [(5, _), (4, _)]) (.one rfl (.one rfl (.nil _))) <| QN.then_ <| W.ret <| QR.block <| QR.then_ <| QR.then_ ?_
      refine QR.block <| QR.then_ ?_
      cases h
      exact QR.f2 rfl rfl (.t rfl) (.t rfl) (.id _)
     ·refine W.skip <| QN.block <| QN.then_ <| W.region ?_
      obtain ⟨c995, h⟩ := ite_n h
      refine WL.p rfl rfl rfl (.s 40 rfl (.k .nil)) (q_addR rfl c995) <| WL.p rfl rfl rfl (.s 57 rfl .nil) (q_move rfl) <| WL.nil ?_
      exact next0 () (x40 + 1) _ h (.one rfl (.one rfl (.one rfl (.one rfl (.one rfl (.nil _))))))
    ·refine W.exit <| QX.then_ <| QX.then_ <| QX.here <| QN.then_ <| W.seq <| W.seq <| W.region <| WL.p rfl rfl rfl (.s 3 rfl .nil) (q_field rfl fo60_0 rfl) <| WL.p rfl rfl rfl (.s 58 rfl .nil) (q_field rfl fo38_1 rfl) <| WL.p rfl rfl rfl (.s 59 rfl .nil) (q_load rfl sh36) <| WL.p rfl rfl rfl (.s 60 rfl .nil) (q_len rfl elS36) <| WL.p rfl rfl rfl (.k .nil) (q_move rfl) ?_
     refine WL.nil <| QN.then_ <| W.block ?_
     refine W.loop1 (Γ := Unit) (fun (_ : Unit) (x62 : Int) => [(2, PtrA [SlcA kNodeType a0.fNodes, SlcA kEdgeType a0.fEdges]), (3, PtrA [SlcA kInt a1.fGraph.fNodes, SlcA kEdge a1.fGraph.fEdges, SlcA (kSl kInt) a1.fValues]), (60, SlcA kEdge a1.fGraph.fEdges), (61, EqA (.int .i64 (a1.fGraph.fEdges.length : Int))), (62, EqA (.int .i64 x62))]) (fun (_ : Unit) (_ : Int) => []) h () (.one rfl (.one rfl (.one rfl (.one rfl (.one rfl (.nil _)))))) rfl (fun rec1 K1 next1 _ x62 h => ?_)
     unfold host_Valid.b1 at h
     refine W.seq <| W.region <| WL.p rfl rfl rfl (.s 62 rfl (.s 61 rfl .nil)) (q_int rfl rfl) <| WL.nil <| QN.then_ <| W.seq ?_
     refine W.condP h rfl (fun hb1026 h => ?_) (fun hb1026 h => ?_)
     ·refine W.skip <| QN.then_ <| W.seq <| W.block <| W.seq <| W.region <| WL.p rfl rfl rfl (.s 62 rfl .nil) (q_move rfl) ?_
      obtain ⟨c1027, h⟩ := ite_n h
      refine WL.p rfl rfl rfl (.s 60 rfl (.s 62 rfl .nil)) (q_index rfl el36 rfl c1027.1 c1027.2) <| WL.p rfl rfl rfl (.s 65 rfl .nil) (q_loadS rfl sh109 (leB rfl) rfl) <| WL.w [] rfl (Wanted.plain rfl) rfl rfl .nil (w_alloc rfl z109 (l := [EqA (.int .i64 0), EqA (.int .i64 0), EqA (.int .i64 0)]) rfl) ?_
      rintro _ _ ⟨b1028, rfl, rfl⟩
      refine WL.p rfl rfl rfl (.s 64 rfl .nil) (q_assign rfl) <| WL.w0 [0] rfl (Wanted.plain rfl) rfl (.s 13 rfl (.s 66 rfl .nil)) (w_store (L := [EqA (.int .i64 ((rd a1.fGraph.fEdges x62).fType)), EqA (.int .i64 ((rd a1.fGraph.fEdges x62).fFrom)), EqA (.int .i64 ((rd a1.fGraph.fEdges x62).fTo))]) rfl sh109 (CellsOf.agg _) rfl rfl (leB rfl) rfl) ?_
      rintro _ _ ⟨rfl, rfl⟩
      refine WL.nil <| QN.to (StTo.still [0] 13 rfl rfl) <| QN.then_ <| W.seq <| W.seq <| W.region <| WL.p rfl rfl rfl (.s 13 rfl .nil) (q_field rfl fo109_0 rfl) <| WL.p rfl rfl rfl (.s 67 rfl .nil) (q_load rfl sh3) <| WL.p rfl rfl rfl (.s 2 rfl .nil) (q_field rfl fo35_1 rfl) <| WL.p rfl rfl rfl (.s 69 rfl .nil) (q_load rfl sh33) <| WL.p rfl rfl rfl (.s 70 rfl .nil) (q_len rfl elS33) <| WL.p rfl rfl rfl (.s 68 rfl (.s 71 rfl .nil)) (q_int rfl rfl) <| WL.nil ?_
      refine QN.weaken (env' := [(72, _), (12, _), (13, _), (62, _), (61, _), (60, _), (3, _), (2, _)]) (.one rfl (.one rfl (.one rfl (.one rfl (.one rfl (.one rfl (.one rfl (.one rfl (.nil _))))))))) <| QN.then_ ?_
      refine W.condP h rfl (fun hb1029 h => ?_) (fun hb1029 h => ?_)
      ·refine W.seq <| W.region <| WL.p rfl rfl rfl (.s 12 rfl .nil) (q_move rfl) <| WL.p rfl rfl rfl (.s 73 rfl .nil) (q_assign rfl) <| WL.p rfl rfl rfl (.k .nil) (q_assign rfl) <| WL.nil <| QN.weaken (env' := [(5, _), (4, _)]) (.one rfl (.one rfl (.nil _))) <| QN.then_ <| W.ret <| QR.then_ <| QR.block <| QR.then_ <| QR.then_ ?_
       refine QR.block <| QR.then_ ?_
       cases h
       exact QR.f2 rfl rfl (.t rfl) (.t rfl) (.id _)
      ·refine W.skip <| QN.then_ <| W.seq <| W.drawK [(0, false), (1, false), (2, false), (3, false), (4, false), (5, false), (6, false), (7, false), (8, false), (9, false), (10, false), (11, false), (12, false), (13, false), (14, false), (15, false), (16, false), (17, false), (18, false)] [] [[], [], [1], [], [3], [3, 4], [], [6], [3, 4, 5, 6, 7], [3, 4, 5, 6, 7, 8], [], [10], [10, 11], [], [13], [10, 11, 12, 13, 14], [10, 11, 12, 13, 14, 15], [0, 1, 2, 3, 4, 5, 6, 7, 8, 9, 10, 11, 12, 13, 14, 15, 16], [0, 1, 2, 3, 4, 5, 6, 7, 8, 9, 10, 11, 12, 13, 14, 15, 16, 17]] mx (by kernel_rfl) <| DK.cons rfl rfl (.p rfl (.s 2 rfl .nil) rfl (q_loadS rfl sh35 (leB rfl) rfl)) <| DK.cons rfl rfl (.p rfl (.s 13 rfl .nil) rfl (q_field rfl fo109_0 rfl)) <| DK.cons rfl rfl (.p rfl (.s 75 rfl .nil) rfl (q_load rfl sh3)) <| DK.cons rfl rfl (.p rfl (.s 3 rfl .nil) rfl (q_field rfl fo60_0 rfl)) <| DK.cons rfl rfl (.p rfl (.s 77 rfl .nil) rfl (q_field rfl fo38_0 rfl)) <| DK.cons rfl rfl (.p rfl (.s 78 rfl .nil) rfl (q_load rfl sh26)) <| DK.cons rfl rfl (.p rfl (.s 13 rfl .nil) rfl (q_field rfl fo109_1 rfl)) <| DK.cons rfl rfl (.p rfl (.s 80 rfl .nil) rfl (q_load rfl sh3)) ?_
       obtain ⟨c1036, h⟩ := ite_n h
       refine DK.cons rfl rfl (.p rfl (.s 79 rfl (.s 81 rfl .nil)) rfl (q_index rfl el26 rfl c1036.1 c1036.2)) <| DK.cons rfl rfl (.p rfl (.s 82 rfl .nil) rfl (q_load rfl sh3)) <| DK.cons rfl rfl (.p rfl (.s 3 rfl .nil) rfl (q_field rfl fo60_0 rfl)) <| DK.cons rfl rfl (.p rfl (.s 84 rfl .nil) rfl (q_field rfl fo38_0 rfl)) <| DK.cons rfl rfl (.p rfl (.s 85 rfl .nil) rfl (q_load rfl sh26)) <| DK.cons rfl rfl (.p rfl (.s 13 rfl .nil) rfl (q_field rfl fo109_2 rfl)) <| DK.cons rfl rfl (.p rfl (.s 87 rfl .nil) rfl (q_load rfl sh3)) ?_
       obtain ⟨c1037, h⟩ := ite_n h
       refine DK.cons rfl rfl (.p rfl (.s 86 rfl (.s 88 rfl .nil)) rfl (q_index rfl el26 rfl c1037.1 c1037.2)) <| DK.cons rfl rfl (.p rfl (.s 89 rfl .nil) rfl (q_load rfl sh3)) ?_
       obtain ⟨t1038, ht1038, h⟩ := bind_s h
       refine DK.cons rfl rfl (.p rfl (.s 74 rfl (.s 76 rfl (.s 83 rfl (.s 90 rfl .nil)))) rfl (q_call (f := 157) (A := EqA (.bool t1038)) (xs := [.tmp 74, .tmp 76, .tmp 83, .tmp 90]) («as» := [AggA [SlcA kNodeType a0.fNodes, SlcA kEdgeType a0.fEdges], EqA (.int .i64 ((rd a1.fGraph.fEdges x62).fType)), EqA (.int .i64 (rd a1.fGraph.fNodes ((rd a1.fGraph.fEdges x62).fFrom))), EqA (.int .i64 (rd a1.fGraph.fNodes ((rd a1.fGraph.fEdges x62).fTo)))]) rfl ca157 (types_Fits.con k a0 ((rd a1.fGraph.fEdges x62).fType) (rd a1.fGraph.fNodes ((rd a1.fGraph.fEdges x62).fFrom)) (rd a1.fGraph.fNodes ((rd a1.fGraph.fEdges x62).fTo)) t1038 ht1038) rfl)) <| DK.cons rfl rfl (.p rfl (.s 91 rfl .nil) rfl (q_not rfl)) <| DK.nil <| CSteps.nil <| QN.weaken (env' := [(92, _), (12, _), (62, _), (61, _), (60, _), (3, _), (2, _)]) (.one rfl (.one rfl (.one rfl (.one rfl (.one rfl (.one rfl (.one rfl (.nil _)))))))) <| QN.then_ ?_
       refine W.condP h rfl (fun hb1039 h => ?_) (fun hb1039 h => ?_)
       ·refine W.seq <| W.region <| WL.p rfl rfl rfl (.s 12 rfl .nil) (q_move rfl) <| WL.p rfl rfl rfl (.s 93 rfl .nil) (q_assign rfl) <| WL.p rfl rfl rfl (.k .nil) (q_assign rfl) <| WL.nil <| QN.weaken (env' := [(5, _), (4, _)]) (.one rfl (.one rfl (.nil _))) <| QN.then_ <| W.ret <| QR.block <| QR.then_ <| QR.then_ <| QR.block ?_
        refine QR.then_ ?_
        cases h
        exact QR.f2 rfl rfl (.t rfl) (.t rfl) (.id _)
       ·refine W.skip <| QN.block <| QN.then_ <| W.region ?_
        obtain ⟨c1040, h⟩ := ite_n h
        refine WL.p rfl rfl rfl (.s 62 rfl (.k .nil)) (q_addR rfl c1040) <| WL.p rfl rfl rfl (.s 94 rfl .nil) (q_move rfl) <| WL.nil ?_
        exact next1 () (x62 + 1) _ h (.one rfl (.one rfl (.one rfl (.one rfl (.one rfl (.nil _))))))
     ·refine W.exit <| QX.then_ <| QX.then_ <| QX.here <| QN.then_ <| W.seq <| W.region <| WL.p rfl rfl rfl (.k .nil) (q_assign rfl) <| WL.p rfl rfl rfl (.k .nil) (q_assign rfl) <| WL.nil <| QN.then_ <| W.ret ?_
      cases h
      exact QR.f2 rfl rfl (.t rfl) (.t rfl) (.id _)
theorem attribute_given.con (k : Nat) (a0 : Types) (a1 : Pattern) (a2 : Host) (r : Int) (h : attribute_given k a0 a1 a2 = some r) : Con Tryz.prog 72 [] [AggA [SlcA kNodeType a0.fNodes, SlcA kEdgeType a0.fEdges], AggA [SlcA kInt a1.fGraph.fNodes, SlcA kEdge a1.fGraph.fEdges, SlcA kSlot a1.fSlots, EqA (.int .i64 a1.fVars), SlcA kTest a1.fTests], AggA [SlcA kInt a2.fGraph.fNodes, SlcA kEdge a2.fGraph.fEdges, SlcA (kSl kInt) a2.fValues]] (RA (EqA (.int .i64 r))) := by
 unfold attribute_given at h
 refine Con.of (N := 23) Tryz.func72 rfl rfl rfl fun w0_ fg_ => W.seq <| W.region <| WL.p rfl rfl rfl (.s 0 rfl .nil) (q_box rfl (CellsOf.agg _)) <| WL.p rfl rfl rfl (.s 1 rfl .nil) (q_box rfl (CellsOf.agg _)) <| WL.p rfl rfl rfl (.s 2 rfl .nil) (q_box rfl (CellsOf.agg _)) <| WL.p rfl rfl rfl (.k .nil) (q_assign rfl) <| WL.nil <| QN.then_ <| W.seq <| W.seq <| W.region <| WL.p rfl rfl rfl (.s 3 rfl .nil) (q_loadS rfl sh35 (leB rfl) rfl) ?_
 refine WL.p rfl rfl rfl (.s 4 rfl .nil) (q_loadS rfl sh42 (leB rfl) rfl) ?_
 obtain ⟨t1041, ht1041, h⟩ := bind_s h
 refine WL.p rfl rfl rfl (.s 10 rfl (.s 11 rfl .nil)) (q_call (f := 18) (A := EqA (.int .i64 t1041)) (xs := [.tmp 10, .tmp 11]) («as» := [AggA [SlcA kNodeType a0.fNodes, SlcA kEdgeType a0.fEdges], AggA [SlcA kInt a1.fGraph.fNodes, SlcA kEdge a1.fGraph.fEdges, SlcA kSlot a1.fSlots, EqA (.int .i64 a1.fVars), SlcA kTest a1.fTests]]) rfl ca18 (attribute_Valid.con k a0 a1 t1041 ht1041) rfl) <| WL.p rfl rfl rfl (.s 12 rfl .nil) (q_assign rfl) <| WL.nil <| QN.weaken (env' := [(7, _), (5, _), (3, _)]) (.one rfl (.one rfl (.one rfl (.nil _)))) <| QN.then_ <| W.seq <| W.region <| WL.p rfl rfl rfl (.s 7 rfl .nil) (q_move rfl) <| WL.p rfl rfl rfl (.s 13 rfl (.k .nil)) (q_int rfl rfl) <| WL.nil <| QN.then_ ?_
 refine W.condP h rfl (fun hb1042 h => ?_) (fun hb1042 h => ?_)
 ·refine W.seq <| W.region <| WL.p rfl rfl rfl (.s 7 rfl .nil) (q_move rfl) <| WL.p rfl rfl rfl (.s 15 rfl .nil) (q_assign rfl) <| WL.nil <| QN.then_ <| W.ret <| QR.then_ ?_
  cases h
  exact QR.f1 rfl rfl (.t rfl) (.id _)
 ·refine W.skip <| QN.then_ <| W.seq <| W.region <| WL.p rfl rfl rfl (.s 3 rfl .nil) (q_loadS rfl sh35 (leB rfl) rfl) <| WL.p rfl rfl rfl (.s 5 rfl .nil) (q_loadS rfl sh60 (leB rfl) rfl) ?_
  obtain ⟨t1043, ht1043, h⟩ := bind_s h
  refine WL.p rfl rfl rfl (.s 17 rfl (.s 18 rfl .nil)) (q_call (f := 118) (A := TupA [EqA (.int .i64 t1043.1), EqA (.int .i64 t1043.2)]) (xs := [.tmp 17, .tmp 18]) («as» := [AggA [SlcA kNodeType a0.fNodes, SlcA kEdgeType a0.fEdges], AggA [SlcA kInt a2.fGraph.fNodes, SlcA kEdge a2.fGraph.fEdges, SlcA (kSl kInt) a2.fValues]]) rfl ca118 (host_Valid.con k a0 a2 t1043 ht1043) rfl) <| WL.p rfl rfl rfl (.s 19 rfl .nil) (q_move rfl) <| WL.p rfl rfl rfl (.s 16 rfl .nil) (q_extract rfl rfl) <| WL.p rfl rfl rfl (.s 16 rfl .nil) (q_extract rfl rfl) <| WL.p rfl rfl rfl (.s 20 rfl .nil) (q_assign rfl) <| WL.p rfl rfl rfl (.s 21 rfl .nil) (q_assign rfl) <| WL.nil <| QN.weaken (env' := [(9, _)]) (.one rfl (.nil _)) <| QN.then_ <| W.seq <| W.region <| WL.p rfl rfl rfl (.s 9 rfl .nil) (q_move rfl) <| WL.p rfl rfl rfl (.s 22 rfl .nil) (q_assign rfl) ?_
  refine WL.nil <| QN.then_ <| W.ret ?_
  cases h
  exact QR.f1 rfl rfl (.t rfl) (.id _)
theorem search_within_1.con (k : Nat) (a0 : Int) (a1 : Types) (r : Bool) (h : search_within_1 k a0 a1 = some r) : Con Tryz.prog 183 [] [EqA (.int .i64 a0), PtrA [SlcA kNodeType a1.fNodes, SlcA kEdgeType a1.fEdges]] (RA (EqA (.bool r))) := by
 unfold search_within_1 at h
 refine Con.of (N := 9) Tryz.func183 rfl rfl rfl fun w0_ fg_ => W.seq <| W.region <| WL.p rfl rfl rfl (.k .nil) (q_assign rfl) <| WL.nil <| QN.then_ <| W.seq <| W.region <| WL.p rfl rfl rfl (.s 0 rfl .nil) (q_move rfl) <| WL.p rfl rfl rfl (.s 1 rfl .nil) (q_field rfl fo35_0 rfl) <| WL.p rfl rfl rfl (.s 5 rfl .nil) (q_load rfl sh32) <| WL.p rfl rfl rfl (.s 6 rfl .nil) (q_len rfl elS32) <| WL.p rfl rfl rfl (.s 4 rfl (.s 7 rfl .nil)) (q_int rfl rfl) ?_
 refine WL.p rfl rfl rfl (.s 8 rfl .nil) (q_assign rfl) <| WL.nil <| QN.weaken (env' := [(3, _)]) (.one rfl (.nil _)) <| QN.then_ <| W.ret ?_
 cases h
 exact QR.f1 rfl rfl (.t rfl) (.id _)
theorem search_within_2.con (k : Nat) (a0 : Edge) (a1 : Types) (r : Bool) (h : search_within_2 k a0 a1 = some r) : Con Tryz.prog 184 [] [AggA [EqA (.int .i64 a0.fType), EqA (.int .i64 a0.fFrom), EqA (.int .i64 a0.fTo)], PtrA [SlcA kNodeType a1.fNodes, SlcA kEdgeType a1.fEdges]] (RA (EqA (.bool r))) := by
 unfold search_within_2 at h
 refine Con.of (N := 10) Tryz.func184 rfl rfl rfl fun w0_ fg_ => W.seq <| W.region <| WL.p rfl rfl rfl (.s 0 rfl .nil) (q_box rfl (CellsOf.agg _)) <| WL.p rfl rfl rfl (.k .nil) (q_assign rfl) <| WL.nil <| QN.then_ <| W.seq <| W.region <| WL.p rfl rfl rfl (.s 2 rfl .nil) (q_field rfl fo109_0 rfl) <| WL.p rfl rfl rfl (.s 4 rfl .nil) (q_load rfl sh3) <| WL.p rfl rfl rfl (.s 1 rfl .nil) (q_field rfl fo35_1 rfl) <| WL.p rfl rfl rfl (.s 6 rfl .nil) (q_load rfl sh33) ?_
 refine WL.p rfl rfl rfl (.s 7 rfl .nil) (q_len rfl elS33) <| WL.p rfl rfl rfl (.s 5 rfl (.s 8 rfl .nil)) (q_int rfl rfl) <| WL.p rfl rfl rfl (.s 9 rfl .nil) (q_assign rfl) <| WL.nil <| QN.weaken (env' := [(3, _)]) (.one rfl (.nil _)) <| QN.then_ <| W.ret ?_
 cases h
 exact QR.f1 rfl rfl (.t rfl) (.id _)
theorem search_within.con (k : Nat) (a0 : Types) (a1 : Graph) (r : Bool) (h : search_within k a0 a1 = some r) : Con Tryz.prog 158 [] [AggA [SlcA kNodeType a0.fNodes, SlcA kEdgeType a0.fEdges], AggA [SlcA kInt a1.fNodes, SlcA kEdge a1.fEdges]] (RA (EqA (.bool r))) := by
 unfold search_within at h
 refine Con.of (N := 17) Tryz.func158 rfl rfl rfl fun w0_ fg_ => W.seq <| W.region <| WL.p rfl rfl rfl (.s 0 rfl .nil) (q_box rfl (CellsOf.agg _)) <| WL.p rfl rfl rfl (.s 1 rfl .nil) (q_box rfl (CellsOf.agg _)) <| WL.p rfl rfl rfl (.k .nil) (q_assign rfl) <| WL.nil <| QN.then_ <| W.seq ?_
 refine W.jn1 (Γ := Unit) (fun (_ : Unit) (x4 : Bool) => [(4, EqA (.bool x4))]) (fun (_ : Unit) (_ : Bool) => []) h (fun _ x4 h => ?_) (fun j1048 Kj1048 h => ?_)
 ·refine QN.then_ <| W.ret ?_
  cases h
  exact QR.f1 rfl rfl (.t rfl) (.id _)
 ·refine W.region <| WL.p rfl rfl rfl (.s 3 rfl .nil) (q_field rfl fo38_0 rfl) <| WL.p rfl rfl rfl (.s 5 rfl .nil) (q_load rfl sh26) <| WL.p rfl rfl rfl (.s 2 rfl .nil) (q_makeFunc (xs := [.tmp 2]) (L := [PtrA [SlcA kNodeType a0.fNodes, SlcA kEdgeType a0.fEdges]]) («as» := (fun (x : Int) => [EqA (.int .i64 x)])) (res := (fun (y : Bool) => EqA (.bool y))) (p := (fun x => search_within_1 k x a0)) rfl ca183 rfl (fun x y hp => (search_within_1.con k x a0 y hp))) ?_
  obtain ⟨t1049, ht1049, h⟩ := bind_s h
  refine WL.p rfl rfl rfl (.s 6 rfl (.s 7 rfl .nil)) (q_call (f := 51) (A := EqA (.bool t1049)) (xs := [.tmp 6, .tmp 7]) («as» := [SlcA kInt a1.fNodes, FnA Tryz.prog (fun (x : Int) => [EqA (.int .i64 x)]) (fun (y : Bool) => EqA (.bool y)) (fun x => search_within_1 k x a0)]) rfl ca51 (slices_ContainsFunc_int.con k a1.fNodes (fun x => search_within_1 k x a0) t1049 ht1049) rfl) <| WL.p rfl rfl rfl (.s 8 rfl .nil) (q_not rfl) <| WL.p rfl rfl rfl (.s 9 rfl .nil) (q_move rfl) ?_
  rcases bif_s h with ⟨hb1050, h⟩ | ⟨hb1050, h⟩
  ·refine WL.q (Wanted.on rfl rfl rfl hb1050) rfl rfl (.s 3 rfl .nil) (q_field rfl fo38_1 rfl).o <| WL.q (Wanted.on rfl rfl rfl hb1050) rfl rfl (.s 11 rfl .nil) (q_load rfl sh36).o <| WL.q (Wanted.on rfl rfl rfl hb1050) rfl rfl (.s 2 rfl .nil) (q_makeFunc (xs := [.tmp 2]) (L := [PtrA [SlcA kNodeType a0.fNodes, SlcA kEdgeType a0.fEdges]]) («as» := (fun (x : Edge) => [AggA [EqA (.int .i64 x.fType), EqA (.int .i64 x.fFrom), EqA (.int .i64 x.fTo)]])) (res := (fun (y : Bool) => EqA (.bool y))) (p := (fun x => search_within_2 k x a0)) rfl ca184 rfl (fun x y hp => (search_within_2.con k x a0 y hp))).o ?_
   obtain ⟨t1051, ht1051, h⟩ := bind_s h
   refine WL.q (Wanted.on rfl rfl rfl hb1050) rfl rfl (.s 12 rfl (.s 13 rfl .nil)) (q_call (f := 53) (A := EqA (.bool t1051)) (xs := [.tmp 12, .tmp 13]) («as» := [SlcA kEdge a1.fEdges, FnA Tryz.prog (fun (x : Edge) => [AggA [EqA (.int .i64 x.fType), EqA (.int .i64 x.fFrom), EqA (.int .i64 x.fTo)]]) (fun (y : Bool) => EqA (.bool y)) (fun x => search_within_2 k x a0)]) rfl ca53 (slices_ContainsFunc_Edge.con k a1.fEdges (fun x => search_within_2 k x a0) t1051 ht1051) rfl).o <| WL.q (Wanted.on rfl rfl rfl hb1050) rfl rfl (.s 14 rfl .nil) (q_not rfl).o <| WL.p rfl rfl rfl (.s 10 rfl (.s 15 rfl .nil)) (q_pickT rfl hb1050) <| WL.p rfl rfl rfl (.s 16 rfl .nil) (q_assign rfl) <| WL.nil ?_
   exact QN.weaken (.one rfl (.nil _)) (Kj1048 () (!t1051) h)
  ·refine WL.skip (Unwanted.on rfl rfl rfl hb1050) rfl rfl <| WL.skip (Unwanted.on rfl rfl rfl hb1050) rfl rfl <| WL.skip (Unwanted.on rfl rfl rfl hb1050) rfl rfl <| WL.skip (Unwanted.on rfl rfl rfl hb1050) rfl rfl <| WL.skip (Unwanted.on rfl rfl rfl hb1050) rfl rfl <| WL.p rfl rfl rfl (.s 10 rfl (.k .nil)) (q_pickF rfl hb1050) <| WL.p rfl rfl rfl (.s 16 rfl .nil) (q_assign rfl) <| WL.nil ?_
   exact QN.weaken (.one rfl (.nil _)) (Kj1048 () false h)
theorem search_valid.con (k : Nat) (a0 : Types) (a1 : Graph) (a2 : Graph) (r : Int) (h : search_valid k a0 a1 a2 = some r) : Con Tryz.prog 119 [] [AggA [SlcA kNodeType a0.fNodes, SlcA kEdgeType a0.fEdges], AggA [SlcA kInt a1.fNodes, SlcA kEdge a1.fEdges], AggA [SlcA kInt a2.fNodes, SlcA kEdge a2.fEdges]] (RA (EqA (.int .i64 r))) := by
 unfold search_valid at h
 refine Con.of (N := 44) Tryz.func119 rfl rfl rfl fun w0_ fg_ => W.seq <| W.region <| WL.p rfl rfl rfl (.s 0 rfl .nil) (q_box rfl (CellsOf.agg _)) <| WL.p rfl rfl rfl (.s 1 rfl .nil) (q_box rfl (CellsOf.agg _)) <| WL.p rfl rfl rfl (.s 2 rfl .nil) (q_box rfl (CellsOf.agg _)) <| WL.p rfl rfl rfl (.k .nil) (q_assign rfl) <| WL.nil <| QN.then_ <| W.seq <| W.seq <| W.region <| WL.p rfl rfl rfl (.s 3 rfl .nil) (q_loadS rfl sh35 (leB rfl) rfl) ?_
 obtain ⟨t1052, ht1052, h⟩ := bind_s h
 refine WL.p rfl rfl rfl (.s 13 rfl .nil) (q_call (f := 49) (A := TupA [EqA (strV t1052.1), EqA (.int .i64 t1052.2)]) (xs := [.tmp 13]) («as» := [AggA [SlcA kNodeType a0.fNodes, SlcA kEdgeType a0.fEdges]]) rfl ca49 (types_Valid.con k a0 t1052 ht1052) rfl) <| WL.p rfl rfl rfl (.s 14 rfl .nil) (q_move rfl) <| WL.p rfl rfl rfl (.s 12 rfl .nil) (q_extract rfl rfl) <| WL.p rfl rfl rfl (.s 12 rfl .nil) (q_extract rfl rfl) <| WL.p rfl rfl rfl (.s 15 rfl .nil) (q_assign rfl) <| WL.p rfl rfl rfl (.s 16 rfl .nil) (q_assign rfl) <| WL.nil <| QN.weaken (env' := [(8, _), (5, _), (4, _), (3, _)]) (.one rfl (.one rfl (.one rfl (.one rfl (.nil _))))) <| QN.then_ <| W.seq <| W.region <| WL.p rfl rfl rfl (.s 8 rfl .nil) (q_move rfl) <| WL.p rfl rfl rfl (.s 17 rfl (.k .nil)) (q_int rfl rfl) ?_
 refine WL.nil <| QN.then_ ?_
 refine W.condP h rfl (fun hb1053 h => ?_) (fun hb1053 h => ?_)
 ·refine W.seq <| W.region <| WL.p rfl rfl rfl (.s 8 rfl .nil) (q_move rfl) <| WL.p rfl rfl rfl (.s 19 rfl .nil) (q_assign rfl) <| WL.nil <| QN.weaken (env' := [(6, _)]) (.one rfl (.nil _)) <| QN.then_ <| W.ret <| QR.then_ ?_
  cases h
  exact QR.f1 rfl rfl (.t rfl) (.id _)
 ·refine W.skip <| QN.then_ <| W.seq <| W.seq <| W.region <| WL.p rfl rfl rfl (.s 4 rfl .nil) (q_loadS rfl sh38 (leB rfl) rfl) <| WL.p rfl rfl rfl (.s 5 rfl .nil) (q_loadS rfl sh38 (leB rfl) rfl) <| WL.p rfl rfl rfl (.s 20 rfl (.s 21 rfl .nil)) (q_lit (kd := kGraph) (ps := [(0, .tmp 20), (1, .tmp 21)]) (xs := [.tmp 20, .tmp 21]) («as» := [AggA [SlcA kInt a1.fNodes, SlcA kEdge a1.fEdges], AggA [SlcA kInt a2.fNodes, SlcA kEdge a2.fEdges]]) (ys := [a1, a2]) rfl rfl el199 rfl gr38 rfl rfl rfl (.cons (CellsOf.agg _) (.cons (CellsOf.agg _) .nil))) <| WL.p rfl rfl rfl (.s 22 rfl .nil) (q_len rfl elS199) <| WL.p rfl rfl rfl (.k .nil) (q_move rfl) <| WL.nil <| QN.then_ <| W.block ?_
  refine W.loop1 (Γ := Unit) (fun (_ : Unit) (x24 : Int) => [(3, PtrA [SlcA kNodeType a0.fNodes, SlcA kEdgeType a0.fEdges]), (4, PtrA [SlcA kInt a1.fNodes, SlcA kEdge a1.fEdges]), (5, PtrA [SlcA kInt a2.fNodes, SlcA kEdge a2.fEdges]), (22, SlcA kGraph [a1, a2]), (23, EqA (.int .i64 ([a1, a2].length : Int))), (24, EqA (.int .i64 x24))]) (fun (_ : Unit) (_ : Int) => []) h () (.one rfl (.one rfl (.one rfl (.one rfl (.one rfl (.one rfl (.nil _))))))) rfl (fun rec0 K0 next0 _ x24 h => ?_)
  unfold search_valid.b0 at h
  refine W.seq <| W.region <| WL.p rfl rfl rfl (.s 24 rfl (.s 23 rfl .nil)) (q_int rfl rfl) <| WL.nil <| QN.then_ <| W.seq ?_
  refine W.condP h rfl (fun hb1084 h => ?_) (fun hb1084 h => ?_)
  ·refine W.skip <| QN.then_ <| W.seq <| W.block <| W.seq <| W.region ?_
   obtain ⟨c1085, h⟩ := ite_n h
   refine WL.p rfl rfl rfl (.s 22 rfl (.s 24 rfl .nil)) (q_index rfl el199 rfl c1085.1 c1085.2) <| WL.p rfl rfl rfl (.s 26 rfl .nil) (q_loadS rfl sh38 (leB rfl) rfl) <| WL.w [] rfl (Wanted.plain rfl) rfl rfl .nil (w_alloc rfl z38 (l := [EqA (.slice none 0 0), EqA (.slice none 0 0)]) rfl) ?_
   rintro _ _ ⟨b1086, rfl, rfl⟩
   refine WL.w0 [0] rfl (Wanted.plain rfl) rfl (.s 10 rfl (.s 27 rfl .nil)) (w_store (L := [SlcA kInt ((rd [a1, a2] x24).fNodes), SlcA kEdge ((rd [a1, a2] x24).fEdges)]) rfl sh38 (CellsOf.agg _) rfl rfl (leB rfl) rfl) ?_
   rintro _ _ ⟨rfl, rfl⟩
   refine WL.nil <| QN.to (StTo.still [0] 10 rfl rfl) <| QN.then_ <| W.seq <| W.region <| WL.p rfl rfl rfl (.s 10 rfl .nil) (q_loadS rfl sh38 (leB rfl) rfl) ?_
   obtain ⟨t1087, ht1087, h⟩ := bind_s h
   refine WL.p rfl rfl rfl (.s 28 rfl .nil) (q_call (f := 50) (A := EqA (.int .i64 t1087)) (xs := [.tmp 28]) («as» := [AggA [SlcA kInt ((rd [a1, a2] x24).fNodes), SlcA kEdge ((rd [a1, a2] x24).fEdges)]]) rfl ca50 (graph_Valid.con k (rd [a1, a2] x24) t1087 ht1087) rfl) <| WL.p rfl rfl rfl (.s 29 rfl .nil) (q_assign rfl) <| WL.nil <| QN.then_ <| W.seq <| W.region <| WL.p rfl rfl rfl (.s 11 rfl .nil) (q_move rfl) <| WL.p rfl rfl rfl (.s 30 rfl (.k .nil)) (q_int rfl rfl) <| WL.nil <| QN.weaken (env' := [(31, _), (11, _), (24, _), (23, _), (22, _), (5, _), (4, _), (3, _)]) (.one rfl (.one rfl (.one rfl (.one rfl (.one rfl (.one rfl (.one rfl (.one rfl (.nil _))))))))) <| QN.then_ ?_
   refine W.condP h rfl (fun hb1088 h => ?_) (fun hb1088 h => ?_)
   ·refine W.seq <| W.region <| WL.p rfl rfl rfl (.s 11 rfl .nil) (q_move rfl) <| WL.p rfl rfl rfl (.s 32 rfl .nil) (q_assign rfl) <| WL.nil <| QN.weaken (env' := [(6, _)]) (.one rfl (.nil _)) <| QN.then_ <| W.ret <| QR.block <| QR.then_ <| QR.then_ <| QR.block <| QR.then_ ?_
    cases h
    exact QR.f1 rfl rfl (.t rfl) (.id _)
   ·refine W.skip <| QN.block <| QN.then_ <| W.region ?_
    obtain ⟨c1089, h⟩ := ite_n h
    refine WL.p rfl rfl rfl (.s 24 rfl (.k .nil)) (q_addR rfl c1089) <| WL.p rfl rfl rfl (.s 33 rfl .nil) (q_move rfl) <| WL.nil ?_
    exact next0 () (x24 + 1) _ h (.one rfl (.one rfl (.one rfl (.one rfl (.one rfl (.one rfl (.nil _)))))))
  ·refine W.exit <| QX.then_ <| QX.then_ <| QX.here <| QN.then_ <| W.seq <| W.seq ?_
   refine W.jn1 (Γ := Unit) (fun (_ : Unit) (x43 : Bool) => [(43, EqA (.bool x43))]) (fun (_ : Unit) (_ : Bool) => []) h (fun _ x43 h => ?_) (fun j1094 Kj1094 h => ?_)
   ·refine QN.then_ ?_
    refine W.condP h rfl (fun hb1095 h => ?_) (fun hb1095 h => ?_)
    ·refine W.seq <| W.region <| WL.p rfl rfl rfl (.k .nil) (q_assign rfl) <| WL.nil <| QN.then_ <| W.ret <| QR.then_ ?_
     cases h
     exact QR.f1 rfl rfl (.t rfl) (.id _)
    ·refine W.skip <| QN.then_ <| W.seq <| W.region <| WL.p rfl rfl rfl (.k .nil) (q_assign rfl) <| WL.nil <| QN.then_ <| W.ret ?_
     cases h
     exact QR.f1 rfl rfl (.t rfl) (.id _)
   ·refine W.region <| WL.p rfl rfl rfl (.s 3 rfl .nil) (q_loadS rfl sh35 (leB rfl) rfl) <| WL.p rfl rfl rfl (.s 4 rfl .nil) (q_loadS rfl sh38 (leB rfl) rfl) ?_
    obtain ⟨t1096, ht1096, h⟩ := bind_s h
    refine WL.p rfl rfl rfl (.s 34 rfl (.s 35 rfl .nil)) (q_call (f := 158) (A := EqA (.bool t1096)) (xs := [.tmp 34, .tmp 35]) («as» := [AggA [SlcA kNodeType a0.fNodes, SlcA kEdgeType a0.fEdges], AggA [SlcA kInt a1.fNodes, SlcA kEdge a1.fEdges]]) rfl ca158 (search_within.con k a0 a1 t1096 ht1096) rfl) <| WL.p rfl rfl rfl (.s 36 rfl .nil) (q_not rfl) <| WL.p rfl rfl rfl (.s 37 rfl .nil) (q_move rfl) ?_
    rcases bif_s h with ⟨hb1097, h⟩ | ⟨hb1097, h⟩
    ·refine WL.skip (Unwanted.on rfl rfl rfl hb1097) rfl rfl <| WL.skip (Unwanted.on rfl rfl rfl hb1097) rfl rfl <| WL.skip (Unwanted.on rfl rfl rfl hb1097) rfl rfl <| WL.skip (Unwanted.on rfl rfl rfl hb1097) rfl rfl <| WL.p rfl rfl rfl (.s 38 rfl (.k .nil)) (q_pickT rfl hb1097) <| WL.nil ?_
     exact QN.weaken (.one rfl (.nil _)) (Kj1094 () true h)
    ·refine WL.q (Wanted.on rfl rfl rfl hb1097) rfl rfl (.s 3 rfl .nil) (q_loadS rfl sh35 (leB rfl) rfl).o <| WL.q (Wanted.on rfl rfl rfl hb1097) rfl rfl (.s 5 rfl .nil) (q_loadS rfl sh38 (leB rfl) rfl).o ?_
     obtain ⟨t1098, ht1098, h⟩ := bind_s h
     refine WL.q (Wanted.on rfl rfl rfl hb1097) rfl rfl (.s 39 rfl (.s 40 rfl .nil)) (q_call (f := 158) (A := EqA (.bool t1098)) (xs := [.tmp 39, .tmp 40]) («as» := [AggA [SlcA kNodeType a0.fNodes, SlcA kEdgeType a0.fEdges], AggA [SlcA kInt a2.fNodes, SlcA kEdge a2.fEdges]]) rfl ca158 (search_within.con k a0 a2 t1098 ht1098) rfl).o <| WL.q (Wanted.on rfl rfl rfl hb1097) rfl rfl (.s 41 rfl .nil) (q_not rfl).o <| WL.p rfl rfl rfl (.s 38 rfl (.s 42 rfl .nil)) (q_pickF rfl hb1097) <| WL.nil ?_
     exact QN.weaken (.one rfl (.nil _)) (Kj1094 () (!t1098) h)
theorem types_Below.con (k : Nat) (a0 : Types) (a1 : Int) (r : ((List Int) × Int)) (h : types_Below k a0 a1 = some r) : Con Tryz.prog 128 [] [AggA [SlcA kNodeType a0.fNodes, SlcA kEdgeType a0.fEdges], EqA (.int .i64 a1)] (RA (TupA [SlcA kInt r.1, EqA (.int .i64 r.2)])) := by
 unfold types_Below at h
 refine Con.of (N := 32) Tryz.func128 rfl rfl rfl fun w0_ fg_ => W.seq <| W.region <| WL.p rfl rfl rfl (.s 0 rfl .nil) (q_box rfl (CellsOf.agg _)) <| WL.p rfl rfl rfl (.k .nil) (q_assign rfl) <| WL.p rfl rfl rfl (.k .nil) (q_assign rfl) <| WL.nil <| QN.then_ <| W.seq <| W.seq <| W.region <| WL.p rfl rfl rfl (.s 2 rfl .nil) (q_loadS rfl sh35 (leB rfl) rfl) <| WL.p rfl rfl rfl (.s 1 rfl .nil) (q_move rfl) ?_
 refine WL.p rfl rfl rfl (.s 10 rfl .nil) (q_lit (kd := kInt) (ps := [(0, .tmp 10)]) (xs := [.tmp 10]) («as» := [EqA (.int .i64 a1)]) (ys := [a1]) rfl rfl el26 rfl gr3 rfl rfl rfl (.cons (CellsOf.one rfl) .nil)) ?_
 obtain ⟨t1099, ht1099, h⟩ := bind_s h
 refine WL.p rfl rfl rfl (.s 9 rfl (.s 11 rfl .nil)) (q_call (f := 133) (A := EqA (.int .i64 t1099)) (xs := [.tmp 9, .tmp 11]) («as» := [AggA [SlcA kNodeType a0.fNodes, SlcA kEdgeType a0.fEdges], SlcA kInt [a1]]) rfl ca133 (types_given.con k a0 [a1] t1099 ht1099) rfl) <| WL.p rfl rfl rfl (.s 12 rfl .nil) (q_assign rfl) <| WL.nil <| QN.weaken (env' := [(6, _), (2, _), (1, _)]) (.one rfl (.one rfl (.one rfl (.nil _)))) <| QN.then_ <| W.seq <| W.region <| WL.p rfl rfl rfl (.s 6 rfl .nil) (q_move rfl) <| WL.p rfl rfl rfl (.s 13 rfl (.k .nil)) (q_int rfl rfl) <| WL.nil <| QN.then_ ?_
 refine W.condP h rfl (fun hb1100 h => ?_) (fun hb1100 h => ?_)
 ·refine W.seq <| W.region <| WL.p rfl rfl rfl (.s 6 rfl .nil) (q_move rfl) <| WL.p rfl rfl rfl (.k .nil) (q_assign rfl) <| WL.p rfl rfl rfl (.s 15 rfl .nil) (q_assign rfl) <| WL.nil <| QN.then_ <| W.ret <| QR.then_ ?_
  cases h
  exact QR.f2 rfl rfl (.t rfl) (.t rfl) (.imp (Imp.tup (.cons (Imp.nil kInt) (.cons (Imp.id _) .nil))))
 ·refine W.skip <| QN.then_ <| W.seq <| W.region <| WL.p rfl rfl rfl (.k .nil) (q_assign rfl) <| WL.nil <| QN.then_ <| W.seq <| W.seq <| W.region <| WL.p rfl rfl rfl (.s 2 rfl .nil) (q_field rfl fo35_0 rfl) <| WL.p rfl rfl rfl (.s 16 rfl .nil) (q_load rfl sh32) <| WL.p rfl rfl rfl (.s 17 rfl .nil) (q_len rfl elS32) ?_
  refine WL.p rfl rfl rfl (.k .nil) (q_move rfl) <| WL.nil <| QN.then_ <| W.block <| W.to (StTo.newNil 3 kInt) <| W.to (StTo.as 7 rfl Imp.nilHd) ?_
  refine W.loop2 (Γ := Value) (fun (g0 : Value) (_ : (List Int)) (x19 : Int) => [(1, EqA (.int .i64 a1)), (2, PtrA [SlcA kNodeType a0.fNodes, SlcA kEdgeType a0.fEdges]), (7, HdA g0), (18, EqA (.int .i64 (a0.fNodes.length : Int))), (19, EqA (.int .i64 x19))]) (fun (g0 : Value) (x7 : (List Int)) (_ : Int) => [SlE 3 g0 kInt x7]) h (.slice none 0 0) (.one rfl (.one rfl (.one rfl (.one rfl (.one rfl (.nil _)))))) rfl (fun rec0 K0 next0 g0 x7 x19 h => ?_)
  unfold types_Below.b0 at h
  refine W.seq <| W.region <| WL.p rfl rfl rfl (.s 19 rfl (.s 18 rfl .nil)) (q_int rfl rfl) <| WL.nil <| QN.then_ <| W.seq ?_
  refine W.condP h rfl (fun hb1129 h => ?_) (fun hb1129 h => ?_)
  ·refine W.skip <| QN.then_ <| W.seq <| W.block <| W.seq <| W.region <| WL.p rfl rfl rfl (.s 19 rfl .nil) (q_move rfl) <| WL.p rfl rfl rfl (.s 21 rfl .nil) (q_assign rfl) <| WL.nil <| QN.then_ <| W.seq <| W.region <| WL.p rfl rfl rfl (.s 2 rfl .nil) (q_loadS rfl sh35 (leB rfl) rfl) ?_
   refine WL.p rfl rfl rfl (.s 8 rfl .nil) (q_move rfl) <| WL.p rfl rfl rfl (.s 1 rfl .nil) (q_move rfl) ?_
   obtain ⟨t1130, ht1130, h⟩ := bind_s h
   refine WL.p rfl rfl rfl (.s 22 rfl (.s 23 rfl (.s 24 rfl .nil))) (q_call (f := 172) (A := EqA (.bool t1130)) (xs := [.tmp 22, .tmp 23, .tmp 24]) («as» := [AggA [SlcA kNodeType a0.fNodes, SlcA kEdgeType a0.fEdges], EqA (.int .i64 x19), EqA (.int .i64 a1)]) rfl ca172 (types_is.con k a0 x19 a1 t1130 ht1130) rfl) <| WL.nil <| QN.then_ ?_
   refine W.condP h rfl (fun hb1134 h => ?_) (fun hb1134 h => ?_)
   ·refine W.region <| WL.p rfl rfl rfl (.s 7 rfl .nil) (q_move rfl) <| WL.p rfl rfl rfl (.s 8 rfl .nil) (q_move rfl) <| WL.p rfl rfl rfl (.s 27 rfl .nil) (q_lit (kd := kInt) (ps := [(0, .tmp 27)]) (xs := [.tmp 27]) («as» := [EqA (.int .i64 x19)]) (ys := [x19]) rfl rfl el26 rfl gr3 rfl rfl rfl (.cons (CellsOf.one rfl) .nil)) ?_
    obtain ⟨c1135, h⟩ := ite_n h
    refine WL.w [0] rfl (Wanted.plain rfl) rfl rfl (.s 26 rfl (.s 28 rfl .nil)) (w_append (kd := kInt) rfl el26 rfl gr3 c1135) ?_
    rintro _ _ ⟨v1136, rfl, rfl⟩
    refine WL.p rfl rfl rfl (.s 29 rfl .nil) (q_assign rfl) <| WL.nil <| QN.block <| QN.weaken (env' := [(7, _), (19, _), (18, _), (2, _), (1, _)]) (.one rfl (.one rfl (.one rfl (.one rfl (.one rfl (.nil _)))))) <| QN.then_ <| W.region ?_
    obtain ⟨c1137, h⟩ := ite_n h
    refine WL.p rfl rfl rfl (.s 19 rfl (.k .nil)) (q_addR rfl c1137) <| WL.p rfl rfl rfl (.s 30 rfl .nil) (q_move rfl) <| WL.nil ?_
    exact next0 v1136 (x7 ++ [x19]) (x19 + 1) _ h (.one rfl (.one rfl (.one rfl (.one rfl (.one rfl (.nil _))))))
   ·refine W.skip <| QN.block <| QN.weaken (env' := [(19, _), (18, _), (7, _), (2, _), (1, _)]) (.one rfl (.one rfl (.one rfl (.one rfl (.one rfl (.nil _)))))) <| QN.then_ <| W.region ?_
    obtain ⟨c1138, h⟩ := ite_n h
    refine WL.p rfl rfl rfl (.s 19 rfl (.k .nil)) (q_addR rfl c1138) <| WL.p rfl rfl rfl (.s 30 rfl .nil) (q_move rfl) <| WL.nil ?_
    exact next0 g0 x7 (x19 + 1) _ h (.one rfl (.one rfl (.one rfl (.one rfl (.one rfl (.nil _))))))
  ·refine W.exit <| QX.then_ <| QX.then_ <| QX.here <| QN.then_ <| W.seq <| W.region <| WL.p rfl rfl rfl (.s 7 rfl .nil) (q_move rfl) <| WL.p rfl rfl rfl (.s 31 rfl .nil) (q_assign rfl) <| WL.p rfl rfl rfl (.k .nil) (q_assign rfl) <| WL.nil <| QN.weaken (env' := [(5, _), (4, _)]) (.one rfl (.one rfl (.nil _))) <| QN.then_ ?_
   refine W.ret ?_
   cases h
   exact QR.f2 rfl rfl (.t rfl) (.t rfl) (.tup (.cons (.slc 0 rfl) (.cons (.id _) .nil)))
theorem search_below.con (k : Nat) (a0 : Types) (r : (List (List Bool))) (h : search_below k a0 = some r) : Con Tryz.prog 159 [] [AggA [SlcA kNodeType a0.fNodes, SlcA kEdgeType a0.fEdges]] (RA (SlcA (kSl kBool) r)) := by
 unfold search_below at h
 refine Con.of (N := 42) Tryz.func159 rfl rfl rfl fun w0_ fg_ => W.seq <| W.region <| WL.p rfl rfl rfl (.s 0 rfl .nil) (q_box rfl (CellsOf.agg _)) <| WL.p rfl rfl rfl (.k .nil) (q_assign rfl) <| WL.nil <| QN.then_ <| W.seq <| W.region <| WL.p rfl rfl rfl (.k .nil) (q_assign rfl) <| WL.nil <| QN.then_ <| W.seq ?_
 refine W.seq <| W.region <| WL.p rfl rfl rfl (.s 1 rfl .nil) (q_field rfl fo35_0 rfl) <| WL.p rfl rfl rfl (.s 10 rfl .nil) (q_load rfl sh32) <| WL.p rfl rfl rfl (.s 11 rfl .nil) (q_len rfl elS32) <| WL.p rfl rfl rfl (.k .nil) (q_move rfl) <| WL.nil <| QN.then_ <| W.block <| W.to (StTo.newNil 111 (kSl kBool)) <| W.to (StTo.as 3 rfl Imp.nilHd) ?_
 refine W.loop2 (Γ := Value) (fun (g0 : Value) (_ : (List (List Bool))) (x13 : Int) => [(1, PtrA [SlcA kNodeType a0.fNodes, SlcA kEdgeType a0.fEdges]), (3, HdA g0), (12, EqA (.int .i64 (a0.fNodes.length : Int))), (13, EqA (.int .i64 x13))]) (fun (g0 : Value) (x3 : (List (List Bool))) (_ : Int) => [SlE 111 g0 (kSl kBool) x3]) h (.slice none 0 0) (.one rfl (.one rfl (.one rfl (.one rfl (.nil _))))) rfl (fun rec0 K0 next0 g0 x3 x13 h => ?_)
 unfold search_below.b0 at h
 refine W.seq <| W.region <| WL.p rfl rfl rfl (.s 13 rfl (.s 12 rfl .nil)) (q_int rfl rfl) <| WL.nil <| QN.then_ <| W.seq ?_
 refine W.condP h rfl (fun hb1196 h => ?_) (fun hb1196 h => ?_)
 ·refine W.skip <| QN.then_ <| W.seq <| W.block <| W.seq <| W.region <| WL.p rfl rfl rfl (.s 13 rfl .nil) (q_move rfl) <| WL.p rfl rfl rfl (.s 15 rfl .nil) (q_assign rfl) <| WL.nil <| QN.then_ <| W.seq <| W.region <| WL.p rfl rfl rfl (.s 1 rfl .nil) (q_field rfl fo35_0 rfl) ?_
  refine WL.p rfl rfl rfl (.s 16 rfl .nil) (q_load rfl sh32) <| WL.p rfl rfl rfl (.s 17 rfl .nil) (q_len rfl elS32) ?_
  obtain ⟨c1197, h⟩ := ite_n h
  refine WL.w [] rfl (Wanted.plain rfl) rfl rfl (.s 18 rfl (.s 18 rfl .nil)) (w_make (kd := kBool) (z := false) rfl el111 rfl gr4 z4 rfl c1197.1 c1197.2) ?_
  rintro _ _ ⟨v1198, rfl, rfl⟩
  refine WL.p rfl rfl rfl (.s 19 rfl .nil) (q_assign rfl) <| WL.nil <| QN.then_ <| W.seq <| W.region <| WL.p rfl rfl rfl (.s 1 rfl .nil) (q_loadS rfl sh35 (leB rfl) rfl) <| WL.p rfl rfl rfl (.s 4 rfl .nil) (q_move rfl) ?_
  obtain ⟨t1199, ht1199, h⟩ := bind_s h
  refine WL.p rfl rfl rfl (.s 21 rfl (.s 22 rfl .nil)) (q_call (f := 128) (A := TupA [SlcA kInt t1199.1, EqA (.int .i64 t1199.2)]) (xs := [.tmp 21, .tmp 22]) («as» := [AggA [SlcA kNodeType a0.fNodes, SlcA kEdgeType a0.fEdges], EqA (.int .i64 x13)]) rfl ca128 (types_Below.con k a0 x13 t1199 ht1199) rfl) <| WL.p rfl rfl rfl (.s 23 rfl .nil) (q_move rfl) <| WL.p rfl rfl rfl (.s 20 rfl .nil) (q_extract rfl rfl) <| WL.p rfl rfl rfl (.s 20 rfl .nil) (q_extract rfl rfl) <| WL.p rfl rfl rfl (.s 24 rfl .nil) (q_assign rfl) <| WL.p rfl rfl rfl (.s 25 rfl .nil) (q_assign rfl) <| WL.nil <| QN.weaken (env' := [(6, _), (5, _), (13, _), (12, _), (3, _), (1, _)]) (.one rfl (.one rfl (.one rfl (.one rfl (.one rfl (.one rfl (.nil _))))))) <| QN.then_ <| W.seq <| W.seq <| W.region <| WL.p rfl rfl rfl (.s 6 rfl .nil) (q_move rfl) ?_
  refine WL.p rfl rfl rfl (.s 26 rfl .nil) (q_len rfl elS26) <| WL.p rfl rfl rfl (.k .nil) (q_move rfl) <| WL.nil <| QN.then_ <| W.block <| W.order [1, 0] rfl ?_
  refine W.loop2 (Γ := Unit) (fun (_ : Unit) (_ : (List Bool)) (x28 : Int) => [(1, PtrA [SlcA kNodeType a0.fNodes, SlcA kEdgeType a0.fEdges]), (3, HdA g0), (12, EqA (.int .i64 (a0.fNodes.length : Int))), (13, EqA (.int .i64 x13)), (5, HdA v1198), (26, SlcA kInt t1199.1), (27, EqA (.int .i64 (t1199.1.length : Int))), (28, EqA (.int .i64 x28))]) (fun (_ : Unit) (x5 : (List Bool)) (_ : Int) => [SlE 111 g0 (kSl kBool) x3, SlE 4 v1198 kBool x5]) h () (.one rfl (.one rfl (.one rfl (.one rfl (.one rfl (.one rfl (.one rfl (.one rfl (.nil _))))))))) rfl (fun rec1 K1 next1 _ x5 x28 h => ?_)
  unfold search_below.b1 at h
  refine W.seq <| W.region <| WL.p rfl rfl rfl (.s 28 rfl (.s 27 rfl .nil)) (q_int rfl rfl) <| WL.nil <| QN.then_ <| W.seq ?_
  refine W.condP h rfl (fun hb1214 h => ?_) (fun hb1214 h => ?_)
  ·refine W.skip <| QN.then_ <| W.seq <| W.block <| W.seq <| W.region ?_
   obtain ⟨c1215, h⟩ := ite_n h
   refine WL.p rfl rfl rfl (.s 26 rfl (.s 28 rfl .nil)) (q_index rfl el26 rfl c1215.1 c1215.2) <| WL.p rfl rfl rfl (.s 30 rfl .nil) (q_load rfl sh3) <| WL.p rfl rfl rfl (.s 31 rfl .nil) (q_assign rfl) <| WL.nil <| QN.then_ <| W.region <| WL.p rfl rfl rfl (.s 5 rfl .nil) (q_move rfl) <| WL.p rfl rfl rfl (.s 9 rfl .nil) (q_move rfl) ?_
   obtain ⟨c1216, h⟩ := ite_n h
   refine WL.q (Wanted.plain rfl) rfl rfl (.s 32 rfl (.s 33 rfl .nil)) (q_indexO rfl el111 (j := 1) rfl c1216.1 c1216.2) <| WL.w0 [1] rfl (Wanted.plain rfl) rfl (.s 34 rfl (.k .nil)) (w_storeEl (kd := kBool) (z := true) rfl sh4 (CellsOf.one rfl) rfl rfl rfl c1216.1 c1216.2 rfl rfl) ?_
   rintro _ _ ⟨rfl, rfl⟩
   refine WL.nil <| QN.block <| QN.weaken (env' := [(28, _), (27, _), (26, _), (5, _), (13, _), (12, _), (3, _), (1, _)]) (.one rfl (.one rfl (.one rfl (.one rfl (.one rfl (.one rfl (.one rfl (.one rfl (.nil _))))))))) <| QN.then_ <| W.region ?_
   obtain ⟨c1217, h⟩ := ite_n h
   refine WL.p rfl rfl rfl (.s 28 rfl (.k .nil)) (q_addR rfl c1217) <| WL.p rfl rfl rfl (.s 35 rfl .nil) (q_move rfl) <| WL.nil <| QN.order [1, 0] rfl ?_
   exact next1 () (x5.set ((rd t1199.1 x28) : Int).toNat true) (x28 + 1) _ h (.one rfl (.one rfl (.one rfl (.one rfl (.one rfl (.one rfl (.one rfl (.one rfl (.nil _)))))))))
  ·refine W.exit <| QX.then_ <| QX.then_ <| QX.here <| QN.then_ <| W.region <| WL.p rfl rfl rfl (.s 3 rfl .nil) (q_move rfl) <| WL.p rfl rfl rfl (.s 5 rfl .nil) (q_move rfl) <| WL.to (StTo.freeze [1] 37 rfl rfl) <| WL.p rfl rfl rfl (.s 37 rfl .nil) (q_lit (kd := (kSl kBool)) (ps := [(0, .tmp 37)]) (xs := [.tmp 37]) («as» := [SlcA kBool x5]) (ys := [x5]) rfl rfl el200 rfl gr111 rfl rfl rfl (.cons (CellsOf.one rfl) .nil)) ?_
   obtain ⟨c1218, h⟩ := ite_n h
   refine WL.w [0] rfl (Wanted.plain rfl) rfl rfl (.s 36 rfl (.s 38 rfl .nil)) (w_append (kd := (kSl kBool)) rfl el200 rfl gr111 c1218) ?_
   rintro _ _ ⟨v1219, rfl, rfl⟩
   refine WL.p rfl rfl rfl (.s 39 rfl .nil) (q_assign rfl) <| WL.nil <| QN.block <| QN.weaken (env' := [(3, _), (13, _), (12, _), (1, _)]) (.one rfl (.one rfl (.one rfl (.one rfl (.nil _))))) <| QN.then_ <| W.region ?_
   obtain ⟨c1220, h⟩ := ite_n h
   refine WL.p rfl rfl rfl (.s 13 rfl (.k .nil)) (q_addR rfl c1220) <| WL.p rfl rfl rfl (.s 40 rfl .nil) (q_move rfl) <| WL.nil ?_
   exact next0 v1219 (x3 ++ [x5]) (x13 + 1) _ h (.one rfl (.one rfl (.one rfl (.one rfl (.nil _)))))
 ·refine W.exit <| QX.then_ <| QX.then_ <| QX.here <| QN.then_ <| W.seq <| W.region <| WL.p rfl rfl rfl (.s 3 rfl .nil) (q_move rfl) <| WL.p rfl rfl rfl (.s 41 rfl .nil) (q_assign rfl) <| WL.nil <| QN.then_ <| W.ret ?_
  cases h
  exact QR.f1 rfl rfl (.t rfl) (.slc 0 rfl)
theorem search_given.con (k : Nat) (a0 : (Option (List Int))) (a1 : Int) (r : Int) (h : search_given k a0 a1 = some r) : Con Tryz.prog 207 [] [OptA kInt a0, EqA (.int .i64 a1)] (RA (EqA (.int .i64 r))) := by
  cases a0 with
  | none =>
    have hr : -1 = r := some_s h
    subst hr
    refine Con.of (N := 11) Tryz.func207 rfl rfl rfl fun w0_ fg_ => ?_
    refine W.seq (W.region (WL.p rfl rfl rfl (.k .nil) (q_assign rfl) (WL.nil (QN.then_ ?_))))
    refine W.seq (W.seq (W.region (WL.p rfl rfl rfl (.s 0 rfl .nil) (q_move rfl) (WL.p rfl rfl rfl (.s 5 rfl .nil) (QS.need (q_nilNil rfl elS26) (Imp.ofN kInt)) (WL.nil (QN.then_ ?_))))))
    refine W.condT rfl rfl ?_
    refine W.seq (W.region (WL.p rfl rfl rfl (.k .nil) (q_assign rfl) (WL.nil (QN.then_ ?_))))
    exact W.ret (QR.then_ (QR.f1 rfl rfl (.t rfl) (.id _)))
  | some l =>
    obtain ⟨hc, h⟩ := ite_n h
    cases h
    refine Con.of (N := 11) Tryz.func207 rfl rfl rfl fun w0_ fg_ => ?_
    refine W.seq (W.region (WL.p rfl rfl rfl (.k .nil) (q_assign rfl) (WL.nil (QN.then_ ?_))))
    refine W.seq (W.seq (W.region (WL.p rfl rfl rfl (.s 0 rfl .nil) (q_move rfl) (WL.p rfl rfl rfl (.s 5 rfl .nil) (QS.need (q_nilEq (kd := kInt) (xs := l) rfl elS26 (by rintro rfl; simp at hc; omega) rfl) (Imp.ofS kInt l)) (WL.nil (QN.then_ ?_))))))
    refine W.condF rfl rfl (W.skip (QN.then_ ?_))
    refine W.seq (W.region ?_)
    refine WL.p rfl rfl rfl (.s 0 rfl .nil) (q_move rfl) ?_
    refine WL.p rfl rfl rfl (.s 1 rfl .nil) (q_move rfl) ?_
    refine WL.p rfl rfl rfl (.s 7 rfl (.s 8 rfl .nil)) (QS.need (q_index (kd := kInt) (xs := l) rfl el26 rfl hc.1 hc.2) (Imp.ofS kInt l)) ?_
    refine WL.p rfl rfl rfl (.s 9 rfl .nil) (q_load rfl sh3) ?_
    refine WL.p rfl rfl rfl (.s 10 rfl .nil) (q_assign rfl) ?_
    refine WL.nil (QN.then_ ?_)
    exact W.ret (QR.f1 rfl rfl (.t rfl) (.id _))
theorem search_finder_fits.con (k : Nat) (a0 : Finder) (a1 : Int) (a2 : Int) (r : Bool) (h : search_finder_fits k a0 a1 a2 = some r) : Con Tryz.prog 209 [] [PtrA [SlcA kInt a0.fp.fNodes, SlcA kEdge a0.fp.fEdges, SlcA kInt a0.fg.fNodes, SlcA kEdge a0.fg.fEdges, SlcA (kSl kBool) a0.fis, OptA kInt a0.fpartial.fNodes, OptA kInt a0.fpartial.fEdges, EqA (.bool a0.finjective), EqA (.int .i64 a0.fmost), SlcA kInt a0.fnodes, SlcA kInt a0.fedges, SlcA kMorphism a0.fout], EqA (.int .i64 a1), EqA (.int .i64 a2)] (RA (EqA (.bool r))) := by
 unfold search_finder_fits at h
 refine Con.of (N := 59) Tryz.func209 rfl rfl rfl fun w0_ fg_ => W.seq <| W.region <| WL.p rfl rfl rfl (.k .nil) (q_assign rfl) <| WL.nil <| QN.then_ <| W.seq <| W.region <| WL.p rfl rfl rfl (.s 0 rfl .nil) (q_move rfl) <| WL.p rfl rfl rfl (.s 9 rfl .nil) (q_nilCheck rfl) <| WL.p rfl rfl rfl (.s 10 rfl .nil) (q_field rfl fo238_0 rfl) <| WL.p rfl rfl rfl (.s 11 rfl .nil) (q_field rfl fo38_1 rfl) <| WL.p rfl rfl rfl (.s 12 rfl .nil) (q_load rfl sh36) ?_
 refine WL.p rfl rfl rfl (.s 1 rfl .nil) (q_move rfl) ?_
 obtain ⟨c1221, h⟩ := ite_n h
 refine WL.p rfl rfl rfl (.s 13 rfl (.s 14 rfl .nil)) (q_index rfl el36 rfl c1221.1 c1221.2) <| WL.p rfl rfl rfl (.s 15 rfl .nil) (q_loadS rfl sh109 (leB rfl) rfl) <| WL.w [] rfl (Wanted.plain rfl) rfl rfl .nil (w_alloc rfl z109 (l := [EqA (.int .i64 0), EqA (.int .i64 0), EqA (.int .i64 0)]) rfl) ?_
 rintro _ _ ⟨b1222, rfl, rfl⟩
 refine WL.w0 [0] rfl (Wanted.plain rfl) rfl (.s 7 rfl (.s 16 rfl .nil)) (w_store (L := [EqA (.int .i64 ((rd a0.fp.fEdges a1).fType)), EqA (.int .i64 ((rd a0.fp.fEdges a1).fFrom)), EqA (.int .i64 ((rd a0.fp.fEdges a1).fTo))]) rfl sh109 (CellsOf.agg _) rfl rfl (leB rfl) rfl) ?_
 rintro _ _ ⟨rfl, rfl⟩
 refine WL.nil <| QN.to (StTo.still [0] 7 rfl rfl) <| QN.weaken (env' := [(7, _), (2, _), (1, _), (0, _)]) (.one rfl (.one rfl (.one rfl (.one rfl (.nil _))))) <| QN.then_ <| W.seq <| W.seq <| W.region <| WL.p rfl rfl rfl (.s 0 rfl .nil) (q_move rfl) <| WL.p rfl rfl rfl (.s 17 rfl .nil) (q_nilCheck rfl) <| WL.p rfl rfl rfl (.s 18 rfl .nil) (q_field rfl fo238_3 rfl) <| WL.p rfl rfl rfl (.s 19 rfl .nil) (q_field rfl fo64_1 rfl) <| WL.p rfl rfl rfl (.s 20 rfl .nil) (q_load rfl sh26) <| WL.p rfl rfl rfl (.s 1 rfl .nil) (q_move rfl) ?_
 obtain ⟨t1223, ht1223, h⟩ := bind_s h
 refine WL.p rfl rfl rfl (.s 21 rfl (.s 22 rfl .nil)) (q_call (f := 207) (A := EqA (.int .i64 t1223)) (xs := [.tmp 21, .tmp 22]) («as» := [OptA kInt a0.fpartial.fEdges, EqA (.int .i64 a1)]) rfl ca207 (search_given.con k a0.fpartial.fEdges a1 t1223 ht1223) rfl) <| WL.p rfl rfl rfl (.s 23 rfl .nil) (q_assign rfl) <| WL.nil <| QN.weaken (env' := [(8, _), (7, _), (2, _), (0, _)]) (.one rfl (.one rfl (.one rfl (.one rfl (.nil _))))) <| QN.then_ <| W.seq ?_
 refine W.jn1 (Γ := Unit) (fun (_ : Unit) (x30 : Bool) => [(0, PtrA [SlcA kInt a0.fp.fNodes, SlcA kEdge a0.fp.fEdges, SlcA kInt a0.fg.fNodes, SlcA kEdge a0.fg.fEdges, SlcA (kSl kBool) a0.fis, OptA kInt a0.fpartial.fNodes, OptA kInt a0.fpartial.fEdges, EqA (.bool a0.finjective), EqA (.int .i64 a0.fmost), SlcA kInt a0.fnodes, SlcA kInt a0.fedges, SlcA kMorphism a0.fout]), (2, EqA (.int .i64 a2)), (7, PtrA [EqA (.int .i64 ((rd a0.fp.fEdges a1).fType)), EqA (.int .i64 ((rd a0.fp.fEdges a1).fFrom)), EqA (.int .i64 ((rd a0.fp.fEdges a1).fTo))]), (30, EqA (.bool x30))]) (fun (_ : Unit) (_ : Bool) => []) h (fun _ x30 h => ?_) (fun j1226 Kj1226 h => ?_)
 ·refine QN.then_ ?_
  refine W.condP h rfl (fun hb1227 h => ?_) (fun hb1227 h => ?_)
  ·refine W.seq <| W.region <| WL.p rfl rfl rfl (.k .nil) (q_assign rfl) <| WL.nil <| QN.then_ <| W.ret <| QR.then_ ?_
   cases h
   exact QR.f1 rfl rfl (.t rfl) (.id _)
  ·refine W.skip <| QN.then_ <| W.seq <| W.drawK [(0, false), (1, false), (2, false), (3, false), (4, false), (5, false), (6, false), (7, false), (8, false), (9, false), (10, false), (11, false), (12, false), (13, false), (14, false), (15, false), (16, false), (17, false), (18, false), (19, false), (20, false), (21, false), (22, false), (23, false), (24, false), (25, false), (26, false), (27, false), (28, false)] [] [[], [0], [0, 1], [0, 1, 2], [0, 1, 2, 3], [], [0, 1, 2, 3, 4, 5], [0, 1, 2, 3, 4, 5, 6], [], [8], [], [10], [10, 11], [10, 11, 12], [], [14], [10, 11, 12, 13, 14, 15], [10, 11, 12, 13, 14, 15, 16], [], [18], [18, 19], [18, 19, 20], [], [22], [18, 19, 20, 21, 22, 23], [18, 19, 20, 21, 22, 23, 24], [8, 9, 10, 11, 12, 13, 14, 15, 16, 17, 18, 19, 20, 21, 22, 23, 24, 25], [0, 1, 2, 3, 4, 5, 6, 7, 8, 9, 10, 11, 12, 13, 14, 15, 16, 17, 18, 19, 20, 21, 22, 23, 24, 25, 26], [0, 1, 2, 3, 4, 5, 6, 7, 8, 9, 10, 11, 12, 13, 14, 15, 16, 17, 18, 19, 20, 21, 22, 23, 24, 25, 26, 27]] mx (by kernel_rfl) <| DK.cons rfl rfl (.p rfl (.s 0 rfl .nil) rfl (q_move rfl)) <| DK.cons rfl rfl (.p rfl (.s 31 rfl .nil) rfl (q_nilCheck rfl)) <| DK.cons rfl rfl (.p rfl (.s 32 rfl .nil) rfl (q_field rfl fo238_1 rfl)) <| DK.cons rfl rfl (.p rfl (.s 33 rfl .nil) rfl (q_field rfl fo38_1 rfl)) <| DK.cons rfl rfl (.p rfl (.s 34 rfl .nil) rfl (q_load rfl sh36)) <| DK.cons rfl rfl (.p rfl (.s 2 rfl .nil) rfl (q_move rfl)) ?_
   obtain ⟨c1234, h⟩ := ite_n h
   refine DK.cons rfl rfl (.p rfl (.s 35 rfl (.s 36 rfl .nil)) rfl (q_index rfl el36 rfl c1234.1 c1234.2)) <| DK.cons rfl rfl (.p rfl (.s 37 rfl .nil) rfl (q_loadS rfl sh109 (leB rfl) rfl)) <| DK.cons rfl rfl (.p rfl (.s 7 rfl .nil) rfl (q_field rfl fo109_0 rfl)) <| DK.cons rfl rfl (.p rfl (.s 39 rfl .nil) rfl (q_load rfl sh3)) <| DK.cons rfl rfl (.p rfl (.s 0 rfl .nil) rfl (q_move rfl)) <| DK.cons rfl rfl (.p rfl (.s 41 rfl .nil) rfl (q_nilCheck rfl)) <| DK.cons rfl rfl (.p rfl (.s 42 rfl .nil) rfl (q_field rfl fo238_6 rfl)) <| DK.cons rfl rfl (.p rfl (.s 43 rfl .nil) rfl (q_load rfl sh26)) <| DK.cons rfl rfl (.p rfl (.s 7 rfl .nil) rfl (q_field rfl fo109_1 rfl)) <| DK.cons rfl rfl (.p rfl (.s 45 rfl .nil) rfl (q_load rfl sh3)) ?_
   obtain ⟨c1235, h⟩ := ite_n h
   refine DK.cons rfl rfl (.p rfl (.s 44 rfl (.s 46 rfl .nil)) rfl (q_index rfl el26 rfl c1235.1 c1235.2)) <| DK.cons rfl rfl (.p rfl (.s 47 rfl .nil) rfl (q_load rfl sh3)) <| DK.cons rfl rfl (.p rfl (.s 0 rfl .nil) rfl (q_move rfl)) <| DK.cons rfl rfl (.p rfl (.s 49 rfl .nil) rfl (q_nilCheck rfl)) <| DK.cons rfl rfl (.p rfl (.s 50 rfl .nil) rfl (q_field rfl fo238_6 rfl)) <| DK.cons rfl rfl (.p rfl (.s 51 rfl .nil) rfl (q_load rfl sh26)) <| DK.cons rfl rfl (.p rfl (.s 7 rfl .nil) rfl (q_field rfl fo109_2 rfl)) <| DK.cons rfl rfl (.p rfl (.s 53 rfl .nil) rfl (q_load rfl sh3)) ?_
   obtain ⟨c1236, h⟩ := ite_n h
   refine DK.cons rfl rfl (.p rfl (.s 52 rfl (.s 54 rfl .nil)) rfl (q_index rfl el26 rfl c1236.1 c1236.2)) <| DK.cons rfl rfl (.p rfl (.s 55 rfl .nil) rfl (q_load rfl sh3)) <| DK.cons rfl rfl (.p rfl (.s 40 rfl (.s 48 rfl (.s 56 rfl .nil))) rfl (q_build (is := [0, 1, 2]) (xs := [.tmp 40, .tmp 48, .tmp 56]) (L := [EqA (.int .i64 ((rd a0.fp.fEdges a1).fType)), EqA (.int .i64 (rd a0.fnodes ((rd a0.fp.fEdges a1).fFrom))), EqA (.int .i64 (rd a0.fnodes ((rd a0.fp.fEdges a1).fTo)))]) rfl rfl z109 pl109 rfl rfl (.cons (CellsOf.one rfl) (.cons (CellsOf.one rfl) (.cons (CellsOf.one rfl) .nil))) rfl)) <| DK.cons rfl rfl (.p rfl (.s 38 rfl (.s 57 rfl .nil)) rfl (q_eqI (ms := [(rd a0.fg.fEdges a2).fType, (rd a0.fg.fEdges a2).fFrom, (rd a0.fg.fEdges a2).fTo]) (ns := [(rd a0.fp.fEdges a1).fType, (rd a0.fnodes ((rd a0.fp.fEdges a1).fFrom)), (rd a0.fnodes ((rd a0.fp.fEdges a1).fTo))]) rfl issI_109)) <| DK.cons rfl rfl (.p rfl (.s 58 rfl .nil) rfl (q_assign rfl)) <| DK.nil <| CSteps.nil <| QN.weaken (env' := [(6, _)]) (.one rfl (.nil _)) <| QN.then_ <| W.ret ?_
   cases h
   exact QR.f1 rfl rfl (.t rfl) (.id _)
 ·refine W.region <| WL.p rfl rfl rfl (.s 8 rfl .nil) (q_move rfl) <| WL.p rfl rfl rfl (.s 24 rfl (.k .nil)) (q_int rfl rfl) <| WL.p rfl rfl rfl (.s 25 rfl .nil) (q_move rfl) ?_
  rcases bif_s h with ⟨hb1237, h⟩ | ⟨hb1237, h⟩
  ·refine WL.q (Wanted.on rfl rfl rfl hb1237) rfl rfl (.s 8 rfl .nil) (q_move rfl).o <| WL.q (Wanted.on rfl rfl rfl hb1237) rfl rfl (.s 2 rfl .nil) (q_move rfl).o <| WL.q (Wanted.on rfl rfl rfl hb1237) rfl rfl (.s 27 rfl (.s 28 rfl .nil)) (q_int rfl rfl).o <| WL.p rfl rfl rfl (.s 26 rfl (.s 29 rfl .nil)) (q_pickT rfl hb1237) <| WL.nil ?_
   exact QN.weaken (.one rfl (.one rfl (.one rfl (.one rfl (.nil _))))) (Kj1226 () (t1223 != a2) h)
  ·refine WL.skip (Unwanted.on rfl rfl rfl hb1237) rfl rfl <| WL.skip (Unwanted.on rfl rfl rfl hb1237) rfl rfl <| WL.skip (Unwanted.on rfl rfl rfl hb1237) rfl rfl <| WL.p rfl rfl rfl (.s 26 rfl (.k .nil)) (q_pickF rfl hb1237) <| WL.nil ?_
   exact QN.weaken (.one rfl (.one rfl (.one rfl (.one rfl (.nil _))))) (Kj1226 () false h)
theorem search_finder_possible.con (k : Nat) (a0 : Finder) (r : Bool) (h : search_finder_possible k a0 = some r) : Con Tryz.prog 208 [] [PtrA [SlcA kInt a0.fp.fNodes, SlcA kEdge a0.fp.fEdges, SlcA kInt a0.fg.fNodes, SlcA kEdge a0.fg.fEdges, SlcA (kSl kBool) a0.fis, OptA kInt a0.fpartial.fNodes, OptA kInt a0.fpartial.fEdges, EqA (.bool a0.finjective), EqA (.int .i64 a0.fmost), SlcA kInt a0.fnodes, SlcA kInt a0.fedges, SlcA kMorphism a0.fout]] (RA (EqA (.bool r))) := by
 unfold search_finder_possible at h
 refine Con.of (N := 49) Tryz.func208 rfl rfl rfl fun w0_ fg_ => W.seq <| W.region <| WL.p rfl rfl rfl (.k .nil) (q_assign rfl) <| WL.nil <| QN.then_ <| W.seq <| W.region <| WL.p rfl rfl rfl (.s 0 rfl .nil) (q_move rfl) <| WL.p rfl rfl rfl (.s 8 rfl .nil) (q_nilCheck rfl) <| WL.p rfl rfl rfl (.s 9 rfl .nil) (q_field rfl fo238_6 rfl) <| WL.p rfl rfl rfl (.s 10 rfl .nil) (q_load rfl sh26) <| WL.p rfl rfl rfl (.s 11 rfl .nil) (q_len rfl elS26) ?_
 obtain ⟨c1238, h⟩ := ite_n h
 refine WL.p rfl rfl rfl (.s 12 rfl (.k .nil)) (q_subR rfl c1238) <| WL.p rfl rfl rfl (.s 13 rfl .nil) (q_assign rfl) <| WL.nil <| QN.weaken (env' := [(3, _), (0, _)]) (.one rfl (.one rfl (.nil _))) <| QN.then_ <| W.seq <| W.seq <| W.region <| WL.p rfl rfl rfl (.s 0 rfl .nil) (q_move rfl) <| WL.p rfl rfl rfl (.s 14 rfl .nil) (q_nilCheck rfl) <| WL.p rfl rfl rfl (.s 15 rfl .nil) (q_field rfl fo238_0 rfl) <| WL.p rfl rfl rfl (.s 16 rfl .nil) (q_field rfl fo38_1 rfl) <| WL.p rfl rfl rfl (.s 17 rfl .nil) (q_load rfl sh36) ?_
 refine WL.p rfl rfl rfl (.s 18 rfl .nil) (q_len rfl elS36) <| WL.p rfl rfl rfl (.k .nil) (q_move rfl) <| WL.nil <| QN.then_ <| W.block ?_
 refine W.loop1 (Γ := Unit) (fun (_ : Unit) (x20 : Int) => [(0, PtrA [SlcA kInt a0.fp.fNodes, SlcA kEdge a0.fp.fEdges, SlcA kInt a0.fg.fNodes, SlcA kEdge a0.fg.fEdges, SlcA (kSl kBool) a0.fis, OptA kInt a0.fpartial.fNodes, OptA kInt a0.fpartial.fEdges, EqA (.bool a0.finjective), EqA (.int .i64 a0.fmost), SlcA kInt a0.fnodes, SlcA kInt a0.fedges, SlcA kMorphism a0.fout]), (3, EqA (.int .i64 ((a0.fnodes.length : Int) - 1))), (18, SlcA kEdge a0.fp.fEdges), (19, EqA (.int .i64 (a0.fp.fEdges.length : Int))), (20, EqA (.int .i64 x20))]) (fun (_ : Unit) (_ : Int) => []) h () (.one rfl (.one rfl (.one rfl (.one rfl (.one rfl (.nil _)))))) rfl (fun rec0 K0 next0 _ x20 h => ?_)
 unfold search_finder_possible.b0 at h
 refine W.seq <| W.region <| WL.p rfl rfl rfl (.s 20 rfl (.s 19 rfl .nil)) (q_int rfl rfl) <| WL.nil <| QN.then_ <| W.seq ?_
 refine W.condP h rfl (fun hb1357 h => ?_) (fun hb1357 h => ?_)
 ·refine W.skip <| QN.then_ <| W.seq <| W.block <| W.seq <| W.region <| WL.p rfl rfl rfl (.s 20 rfl .nil) (q_move rfl) ?_
  obtain ⟨c1385, h⟩ := ite_n h
  refine WL.p rfl rfl rfl (.s 18 rfl (.s 20 rfl .nil)) (q_index rfl el36 rfl c1385.1 c1385.2) <| WL.p rfl rfl rfl (.s 23 rfl .nil) (q_loadS rfl sh109 (leB rfl) rfl) <| WL.w [] rfl (Wanted.plain rfl) rfl rfl .nil (w_alloc rfl z109 (l := [EqA (.int .i64 0), EqA (.int .i64 0), EqA (.int .i64 0)]) rfl) ?_
  rintro _ _ ⟨b1386, rfl, rfl⟩
  refine WL.p rfl rfl rfl (.s 22 rfl .nil) (q_assign rfl) <| WL.w0 [0] rfl (Wanted.plain rfl) rfl (.s 5 rfl (.s 24 rfl .nil)) (w_store (L := [EqA (.int .i64 ((rd a0.fp.fEdges x20).fType)), EqA (.int .i64 ((rd a0.fp.fEdges x20).fFrom)), EqA (.int .i64 ((rd a0.fp.fEdges x20).fTo))]) rfl sh109 (CellsOf.agg _) rfl rfl (leB rfl) rfl) ?_
  rintro _ _ ⟨rfl, rfl⟩
  refine WL.nil <| QN.to (StTo.still [0] 5 rfl rfl) <| QN.then_ <| W.seq <| W.seq <| W.region <| WL.p rfl rfl rfl (.s 5 rfl .nil) (q_field rfl fo109_1 rfl) <| WL.p rfl rfl rfl (.s 25 rfl .nil) (q_load rfl sh3) <| WL.p rfl rfl rfl (.s 5 rfl .nil) (q_field rfl fo109_2 rfl) <| WL.p rfl rfl rfl (.s 27 rfl .nil) (q_load rfl sh3) <| WL.p rfl rfl rfl (.s 26 rfl (.s 28 rfl .nil)) (q_max rfl) <| WL.p rfl rfl rfl (.s 3 rfl .nil) (q_move rfl) <| WL.p rfl rfl rfl (.s 29 rfl (.s 30 rfl .nil)) (q_int rfl rfl) ?_
  refine WL.nil <| QN.weaken (env' := [(31, _), (4, _), (20, _), (19, _), (18, _), (3, _), (0, _)]) (.one rfl (.one rfl (.one rfl (.one rfl (.one rfl (.one rfl (.one rfl (.nil _)))))))) <| QN.then_ ?_
  refine W.condP h rfl (fun hb1387 h => ?_) (fun hb1387 h => ?_)
  ·refine W.exit <| QX.then_ <| QX.here <| QN.then_ <| W.region ?_
   obtain ⟨c1388, h⟩ := ite_n h
   refine WL.p rfl rfl rfl (.s 20 rfl (.k .nil)) (q_addR rfl c1388) <| WL.p rfl rfl rfl (.s 48 rfl .nil) (q_move rfl) <| WL.nil ?_
   exact next0 () (x20 + 1) _ h (.one rfl (.one rfl (.one rfl (.one rfl (.one rfl (.nil _))))))
  ·refine W.skip <| QN.then_ <| W.seq <| W.region <| WL.p rfl rfl rfl (.k .nil) (q_assign rfl) <| WL.nil <| QN.then_ <| W.seq <| W.seq <| W.region <| WL.p rfl rfl rfl (.s 0 rfl .nil) (q_move rfl) <| WL.p rfl rfl rfl (.s 32 rfl .nil) (q_nilCheck rfl) <| WL.p rfl rfl rfl (.s 33 rfl .nil) (q_field rfl fo238_1 rfl) ?_
   refine WL.p rfl rfl rfl (.s 34 rfl .nil) (q_field rfl fo38_1 rfl) <| WL.p rfl rfl rfl (.s 35 rfl .nil) (q_load rfl sh36) <| WL.p rfl rfl rfl (.s 36 rfl .nil) (q_len rfl elS36) <| WL.p rfl rfl rfl (.k .nil) (q_move rfl) <| WL.nil <| QN.then_ <| W.block ?_
   refine W.loop1 (Γ := Unit) (fun (_ : Unit) (x38 : Int) => [(0, PtrA [SlcA kInt a0.fp.fNodes, SlcA kEdge a0.fp.fEdges, SlcA kInt a0.fg.fNodes, SlcA kEdge a0.fg.fEdges, SlcA (kSl kBool) a0.fis, OptA kInt a0.fpartial.fNodes, OptA kInt a0.fpartial.fEdges, EqA (.bool a0.finjective), EqA (.int .i64 a0.fmost), SlcA kInt a0.fnodes, SlcA kInt a0.fedges, SlcA kMorphism a0.fout]), (3, EqA (.int .i64 ((a0.fnodes.length : Int) - 1))), (18, SlcA kEdge a0.fp.fEdges), (19, EqA (.int .i64 (a0.fp.fEdges.length : Int))), (20, EqA (.int .i64 x20)), (4, EqA (.int .i64 x20)), (6, EqA (.bool false)), (37, EqA (.int .i64 (a0.fg.fEdges.length : Int))), (38, EqA (.int .i64 x38))]) (fun (_ : Unit) (_ : Int) => []) h () (.one rfl (.one rfl (.one rfl (.one rfl (.one rfl (.one rfl (.one rfl (.one rfl (.one rfl (.nil _)))))))))) rfl (fun rec1 K1 next1 _ x38 h => ?_)
   unfold search_finder_possible.b1 at h
   refine W.seq <| W.region <| WL.p rfl rfl rfl (.s 38 rfl (.s 37 rfl .nil)) (q_int rfl rfl) <| WL.nil <| QN.then_ <| W.seq ?_
   refine W.condP h rfl (fun hb1411 h => ?_) (fun hb1411 h => ?_)
   ·refine W.skip <| QN.then_ <| W.seq <| W.block <| W.seq <| W.region <| WL.p rfl rfl rfl (.s 38 rfl .nil) (q_move rfl) <| WL.p rfl rfl rfl (.s 40 rfl .nil) (q_assign rfl) <| WL.nil <| QN.then_ <| W.seq <| W.region <| WL.p rfl rfl rfl (.s 0 rfl .nil) (q_move rfl) ?_
    refine WL.p rfl rfl rfl (.s 4 rfl .nil) (q_move rfl) <| WL.p rfl rfl rfl (.s 7 rfl .nil) (q_move rfl) ?_
    obtain ⟨t1412, ht1412, h⟩ := bind_s h
    refine WL.p rfl rfl rfl (.s 41 rfl (.s 42 rfl (.s 43 rfl .nil))) (q_call (f := 209) (A := EqA (.bool t1412)) (xs := [.tmp 41, .tmp 42, .tmp 43]) («as» := [PtrA [SlcA kInt a0.fp.fNodes, SlcA kEdge a0.fp.fEdges, SlcA kInt a0.fg.fNodes, SlcA kEdge a0.fg.fEdges, SlcA (kSl kBool) a0.fis, OptA kInt a0.fpartial.fNodes, OptA kInt a0.fpartial.fEdges, EqA (.bool a0.finjective), EqA (.int .i64 a0.fmost), SlcA kInt a0.fnodes, SlcA kInt a0.fedges, SlcA kMorphism a0.fout], EqA (.int .i64 x20), EqA (.int .i64 x38)]) rfl ca209 (search_finder_fits.con k a0 x20 x38 t1412 ht1412) rfl) <| WL.nil <| QN.then_ ?_
    refine W.condP h rfl (fun hb1413 h => ?_) (fun hb1413 h => ?_)
    ·refine W.seq <| W.region <| WL.p rfl rfl rfl (.k .nil) (q_assign rfl) <| WL.nil <| QN.weaken (env' := [(6, _), (20, _), (19, _), (18, _), (3, _), (0, _)]) (.one rfl (.one rfl (.one rfl (.one rfl (.one rfl (.one rfl (.nil _))))))) <| QN.then_ <| W.exit <| QX.there rfl <| QX.then_ <| QX.then_ <| QX.here <| QN.then_ <| W.seq ?_
     refine W.region <| WL.p rfl rfl rfl (.s 6 rfl .nil) (q_move rfl) <| WL.p rfl rfl rfl (.s 46 rfl .nil) (q_not rfl) <| WL.nil <| QN.then_ <| W.condF rfl rfl <| W.skip <| QN.block <| QN.then_ <| W.region ?_
     obtain ⟨c1414, h⟩ := ite_n h
     refine WL.p rfl rfl rfl (.s 20 rfl (.k .nil)) (q_addR rfl c1414) <| WL.p rfl rfl rfl (.s 48 rfl .nil) (q_move rfl) <| WL.nil ?_
     exact next0 () (x20 + 1) _ h (.one rfl (.one rfl (.one rfl (.one rfl (.one rfl (.nil _))))))
    ·refine W.skip <| QN.block <| QN.weaken (env' := [(38, _), (37, _), (6, _), (4, _), (20, _), (19, _), (18, _), (3, _), (0, _)]) (.one rfl (.one rfl (.one rfl (.one rfl (.one rfl (.one rfl (.one rfl (.one rfl (.one rfl (.nil _)))))))))) <| QN.then_ <| W.region ?_
     obtain ⟨c1415, h⟩ := ite_n h
     refine WL.p rfl rfl rfl (.s 38 rfl (.k .nil)) (q_addR rfl c1415) <| WL.p rfl rfl rfl (.s 45 rfl .nil) (q_move rfl) <| WL.nil ?_
     exact next1 () (x38 + 1) _ h (.one rfl (.one rfl (.one rfl (.one rfl (.one rfl (.one rfl (.one rfl (.one rfl (.one rfl (.nil _))))))))))
   ·refine W.exit <| QX.then_ <| QX.then_ <| QX.here <| QN.then_ <| W.seq <| W.region <| WL.p rfl rfl rfl (.s 6 rfl .nil) (q_move rfl) <| WL.p rfl rfl rfl (.s 46 rfl .nil) (q_not rfl) <| WL.nil <| QN.then_ <| W.condT rfl rfl <| W.seq ?_
    refine W.region <| WL.p rfl rfl rfl (.k .nil) (q_assign rfl) <| WL.nil <| QN.weaken (env' := [(2, _)]) (.one rfl (.nil _)) <| QN.then_ <| W.ret <| QR.block <| QR.then_ <| QR.then_ <| QR.block <| QR.then_ ?_
    cases h
    exact QR.f1 rfl rfl (.t rfl) (.id _)
 ·refine W.exit <| QX.then_ <| QX.then_ <| QX.here <| QN.then_ <| W.seq <| W.region <| WL.p rfl rfl rfl (.k .nil) (q_assign rfl) <| WL.nil <| QN.then_ <| W.ret ?_
  cases h
  exact QR.f1 rfl rfl (.t rfl) (.id _)
end Go.Proofs.YtcgdfjpeboiioaaGreat
