/- The Go functions compute the pure ones. (Printed by gen.py.) -/
import Derived.Test.YtcgdfjpeboiioaaGreatC3
namespace Go.Proofs.YtcgdfjpeboiioaaGreat
open Go Go.Abs
attribute [local irreducible] Tryz.prog
theorem host_Valid.con (k : Nat) (a0 : Types) (a1 : Host) (r : (Int × Int)) (h : host_Valid k a0 a1 = some r) : Con Tryz.prog 118 [] [AggA [SlcA kNodeType a0.fNodes, SlcA kEdgeType a0.fEdges], AggA [SlcA kInt a1.fGraph.fNodes, SlcA kEdge a1.fGraph.fEdges, SlcA (kSl kInt) a1.fValues]] (RA (TupA [iA r.1, iA r.2])) := by
 unfold host_Valid at h
 refine Con.of (N := 95) Tryz.func118 rfl rfl rfl fun w0_ fg_ => sr <| p1 rfl 0 rfl (q_box rfl (CellsOf.agg _)) <| p1 rfl 1 rfl (q_box rfl (CellsOf.agg _)) <| ak rfl <| ak rfl <| nt <| W.seq <| sr <| lS rfl rfl sh35 rfl rfl ?_
 obtain ⟨t100, ht100, h⟩ := bind_s h
 refine p1 rfl 15 rfl (q_call (f := 49) (A := TupA [EqA (strV t100.1), iA t100.2]) (xs := [.tmp 15]) («as» := [AggA [SlcA kNodeType a0.fNodes, SlcA kEdgeType a0.fEdges]]) rfl ca49 (types_Valid.con k a0 t100 ht100) rfl) <| mv rfl rfl <| p1 rfl 14 rfl (q_extract rfl rfl) <| p1 rfl 14 rfl (q_extract rfl rfl) <| av rfl rfl <| av rfl rfl <| WL.nil <| QN.weaken (env' := [(7, _), (3, _), (2, _)]) (.o2 rfl (.one rfl (.nil _))) <| QN.then_ <| sr <| mv rfl rfl <| pk rfl 19 rfl (q_int rfl rfl) ?_
 refine nt ?_
 refine W.condP h rfl (fun hb101 h => ?_) (fun hb101 h => ?_)
 ·refine sr <| mv rfl rfl <| ak rfl <| av rfl rfl <| nt <| W.ret <| QR.then_ ?_
  cases h
  exact QR.f2 rfl rfl (.t rfl) (.t rfl) (.id _)
 ·refine W.skip <| QN.then_ <| W.seq <| sr <| fd rfl rfl fo60_0 rfl <| lS rfl rfl sh38 rfl rfl ?_
  obtain ⟨t102, ht102, h⟩ := bind_s h
  refine p1 rfl 23 rfl (q_call (f := 50) (A := iA t102) (xs := [.tmp 23]) («as» := [AggA [SlcA kInt a1.fGraph.fNodes, SlcA kEdge a1.fGraph.fEdges]]) rfl ca50 (graph_Valid.con k a1.fGraph t102 ht102) rfl) <| av rfl rfl <| nx <| mv rfl rfl <| pk rfl 25 rfl (q_int rfl rfl) <| WL.nil <| QN.weaken (env' := [(26, _), (8, _), (3, _), (2, _)]) (.o4 rfl (.nil _)) <| QN.then_ ?_
  refine W.condP h rfl (fun hb103 h => ?_) (fun hb103 h => ?_)
  ·refine sr <| mv rfl rfl <| ak rfl <| av rfl rfl <| nt <| W.ret <| QR.then_ ?_
   cases h
   exact QR.f2 rfl rfl (.t rfl) (.t rfl) (.id _)
  ·refine W.skip <| QN.then_ <| W.seq <| sr <| fd rfl rfl fo60_1 rfl <| ld rfl rfl sh58 <| p1 rfl 29 rfl (q_len rfl elS58) <| fd rfl rfl fo60_0 rfl <| fd rfl rfl fo38_0 rfl <| ld rfl rfl sh26 <| p1 rfl 33 rfl (q_len rfl elS26) <| p2 rfl 30 rfl 34 rfl (q_int rfl rfl) ?_
   refine WL.nil <| QN.weaken (env' := [(35, _), (3, _), (2, _)]) (.o2 rfl (.one rfl (.nil _))) <| QN.then_ ?_
   refine W.condP h rfl (fun hb104 h => ?_) (fun hb104 h => ?_)
   ·refine sr <| ak rfl <| ak rfl <| nt <| W.ret <| QR.then_ ?_
    cases h
    exact QR.f2 rfl rfl (.t rfl) (.t rfl) (.id _)
   ·refine W.skip <| QN.then_ <| W.seq <| sr <| fd rfl rfl fo60_0 rfl <| fd rfl rfl fo38_0 rfl <| ld rfl rfl sh26 <| p1 rfl 38 rfl (q_len rfl elS26) <| mk_ rfl <| nt <| W.block ?_
    refine W.loop1 (Γ := Unit) (fun (_ : Unit) (x40 : Int) => [(2, PtrA [SlcA kNodeType a0.fNodes, SlcA kEdgeType a0.fEdges]), (3, PtrA [SlcA kInt a1.fGraph.fNodes, SlcA kEdge a1.fGraph.fEdges, SlcA (kSl kInt) a1.fValues]), (38, SlcA kInt a1.fGraph.fNodes), (39, iA (a1.fGraph.fNodes.length : Int)), (40, iA x40)]) (fun (_ : Unit) (_ : Int) => []) h () (.o4 rfl (.one rfl (.nil _))) rfl (fun rec0 K0 next0 _ x40 h => ?_)
    unfold host_Valid.b0 at h
    refine sr <| p2 rfl 40 rfl 39 rfl (q_int rfl rfl) <| nt <| W.seq ?_
    refine W.condP h rfl (fun hb215 h => ?_) (fun hb215 h => ?_)
    ·refine W.skip <| QN.then_ <| W.seq <| W.block <| sr <| mv rfl rfl ?_
     obtain ⟨c216, h⟩ := ite_n h
     refine p2 rfl 38 rfl 40 rfl (q_index rfl el26 rfl c216.1 c216.2) <| ld rfl rfl sh3 <| av rfl rfl <| av rfl rfl <| nt <| W.seq <| W.drawK [(0, false), (1, false), (2, false), (3, false), (4, false), (5, false), (6, false), (7, false), (8, false)] [] (bm [0, 0, 0, 4, 0, 28, 60, 127, 255]) mx (by kernel_rfl) <| DK.cons rfl rfl (.p rfl (.s 2 rfl .nil) rfl (q_loadS rfl sh35 (leB rfl) rfl)) <| dm rfl rfl rfl <| df rfl rfl rfl fo60_1 rfl <| dl rfl rfl rfl sh58 <| dm rfl rfl rfl ?_
     obtain ⟨c221, h⟩ := ite_n h
     refine DK.cons rfl rfl (.p rfl (.s 48 rfl (.s 49 rfl .nil)) rfl (q_index rfl el58 rfl c221.1 c221.2)) <| dl rfl rfl rfl sh26 ?_
     obtain ⟨t222, ht222, h⟩ := bind_s h
     refine DK.cons rfl rfl (.p rfl (.s 45 rfl (.s 46 rfl (.s 51 rfl .nil))) rfl (q_call (f := 156) (A := iA t222) (xs := [.tmp 45, .tmp 46, .tmp 51]) («as» := [AggA [SlcA kNodeType a0.fNodes, SlcA kEdgeType a0.fEdges], iA (rd a1.fGraph.fNodes x40), SlcA kInt (rd a1.fValues x40)]) rfl ca156 (host_node.con k a0 (rd a1.fGraph.fNodes x40) (rd a1.fValues x40) t222 ht222) rfl)) <| DK.cons rfl rfl (.p rfl (.s 52 rfl .nil) rfl (q_assign rfl)) <| DK.nil <| CSteps.nil <| QN.weaken (env' := [(11, _), (9, _), (40, _), (39, _), (38, _), (3, _), (2, _)]) (.o4 rfl (.o2 rfl (.one rfl (.nil _)))) <| QN.then_ <| sr <| mv rfl rfl <| pk rfl 53 rfl (q_int rfl rfl) <| nt ?_
     refine W.condP h rfl (fun hb223 h => ?_) (fun hb223 h => ?_)
     ·refine sr <| mv rfl rfl <| mv rfl rfl <| av rfl rfl <| av rfl rfl <| WL.nil <| QN.weaken (env' := [(5, _), (4, _)]) (.o2 rfl (.nil _)) <| QN.then_ <| W.ret <| QR.block <| QR.then_ <| QR.then_ ?_
      refine QR.block <| QR.then_ ?_
      cases h
      exact QR.f2 rfl rfl (.t rfl) (.t rfl) (.id _)
     ·refine W.skip <| QN.block <| QN.then_ <| W.region ?_
      obtain ⟨c224, h⟩ := ite_n h
      refine pk rfl 40 rfl (q_addR rfl c224) <| mv rfl rfl <| WL.nil ?_
      exact next0 () (x40 + 1) _ h (.o4 rfl (.one rfl (.nil _)))
    ·refine W.exit <| QX.then_ <| QX.then_ <| QX.here <| QN.then_ <| W.seq <| sr <| fd rfl rfl fo60_0 rfl <| fd rfl rfl fo38_1 rfl <| ld rfl rfl sh36 <| p1 rfl 60 rfl (q_len rfl elS36) <| mk_ rfl ?_
     refine nt <| W.block ?_
     refine W.loop1 (Γ := Unit) (fun (_ : Unit) (x62 : Int) => [(2, PtrA [SlcA kNodeType a0.fNodes, SlcA kEdgeType a0.fEdges]), (3, PtrA [SlcA kInt a1.fGraph.fNodes, SlcA kEdge a1.fGraph.fEdges, SlcA (kSl kInt) a1.fValues]), (60, SlcA kEdge a1.fGraph.fEdges), (61, iA (a1.fGraph.fEdges.length : Int)), (62, iA x62)]) (fun (_ : Unit) (_ : Int) => []) h () (.o4 rfl (.one rfl (.nil _))) rfl (fun rec1 K1 next1 _ x62 h => ?_)
     unfold host_Valid.b1 at h
     refine sr <| p2 rfl 62 rfl 61 rfl (q_int rfl rfl) <| nt <| W.seq ?_
     refine W.condP h rfl (fun hb255 h => ?_) (fun hb255 h => ?_)
     ·refine W.skip <| QN.then_ <| W.seq <| W.block <| sr <| mv rfl rfl ?_
      obtain ⟨c256, h⟩ := ite_n h
      refine p2 rfl 60 rfl 62 rfl (q_index rfl el36 rfl c256.1 c256.2) <| lS rfl rfl sh109 rfl rfl <| WL.w [] rfl (Wanted.plain rfl) rfl rfl .nil (w_alloc rfl z109 (l := [iA 0, iA 0, iA 0]) rfl) ?_
      rintro _ _ ⟨b257, rfl, rfl⟩
      refine av rfl rfl <| WL.w0 [0] rfl (Wanted.plain rfl) rfl (.s 13 rfl (.s 66 rfl .nil)) (w_store (L := [iA ((rd a1.fGraph.fEdges x62).fType), iA ((rd a1.fGraph.fEdges x62).fFrom), iA ((rd a1.fGraph.fEdges x62).fTo)]) rfl sh109 (CellsOf.agg _) rfl rfl (leB rfl) rfl) ?_
      rintro _ _ ⟨rfl, rfl⟩
      refine WL.nil <| QN.to (StTo.still [0] 13 rfl rfl) <| QN.then_ <| W.seq <| sr <| fd rfl rfl fo109_0 rfl <| ld rfl rfl sh3 <| fd rfl rfl fo35_1 rfl <| ld rfl rfl sh33 <| p1 rfl 70 rfl (q_len rfl elS33) <| p2 rfl 68 rfl 71 rfl (q_int rfl rfl) <| WL.nil ?_
      refine QN.weaken (env' := [(72, _), (12, _), (13, _), (62, _), (61, _), (60, _), (3, _), (2, _)]) (.o4 rfl (.o4 rfl (.nil _))) <| QN.then_ ?_
      refine W.condP h rfl (fun hb258 h => ?_) (fun hb258 h => ?_)
      ·refine sr <| mv rfl rfl <| av rfl rfl <| ak rfl <| WL.nil <| QN.weaken (env' := [(5, _), (4, _)]) (.o2 rfl (.nil _)) <| QN.then_ <| W.ret <| QR.then_ <| QR.block <| QR.then_ <| QR.then_ ?_
       refine QR.block <| QR.then_ ?_
       cases h
       exact QR.f2 rfl rfl (.t rfl) (.t rfl) (.id _)
      ·refine W.skip <| QN.then_ <| W.seq <| W.drawK [(0, false), (1, false), (2, false), (3, false), (4, false), (5, false), (6, false), (7, false), (8, false), (9, false), (10, false), (11, false), (12, false), (13, false), (14, false), (15, false), (16, false), (17, false), (18, false)] [] (bm [0, 0, 2, 0, 8, 24, 0, 64, 248, 504, 0, 1024, 3072, 0, 8192, 31744, 64512, 131071, 262143]) mx (by kernel_rfl) <| DK.cons rfl rfl (.p rfl (.s 2 rfl .nil) rfl (q_loadS rfl sh35 (leB rfl) rfl)) <| df rfl rfl rfl fo109_0 rfl <| dl rfl rfl rfl sh3 <| df rfl rfl rfl fo60_0 rfl <| df rfl rfl rfl fo38_0 rfl <| dl rfl rfl rfl sh26 <| df rfl rfl rfl fo109_1 rfl <| dl rfl rfl rfl sh3 ?_
       obtain ⟨c265, h⟩ := ite_n h
       refine DK.cons rfl rfl (.p rfl (.s 79 rfl (.s 81 rfl .nil)) rfl (q_index rfl el26 rfl c265.1 c265.2)) <| dl rfl rfl rfl sh3 <| df rfl rfl rfl fo60_0 rfl <| df rfl rfl rfl fo38_0 rfl <| dl rfl rfl rfl sh26 <| df rfl rfl rfl fo109_2 rfl <| dl rfl rfl rfl sh3 ?_
       obtain ⟨c266, h⟩ := ite_n h
       refine DK.cons rfl rfl (.p rfl (.s 86 rfl (.s 88 rfl .nil)) rfl (q_index rfl el26 rfl c266.1 c266.2)) <| dl rfl rfl rfl sh3 ?_
       obtain ⟨t267, ht267, h⟩ := bind_s h
       refine DK.cons rfl rfl (.p rfl (.s 74 rfl (.s 76 rfl (.s 83 rfl (.s 90 rfl .nil)))) rfl (q_call (f := 157) (A := bA t267) (xs := [.tmp 74, .tmp 76, .tmp 83, .tmp 90]) («as» := [AggA [SlcA kNodeType a0.fNodes, SlcA kEdgeType a0.fEdges], iA ((rd a1.fGraph.fEdges x62).fType), iA (rd a1.fGraph.fNodes ((rd a1.fGraph.fEdges x62).fFrom)), iA (rd a1.fGraph.fNodes ((rd a1.fGraph.fEdges x62).fTo))]) rfl ca157 (types_Fits.con k a0 ((rd a1.fGraph.fEdges x62).fType) (rd a1.fGraph.fNodes ((rd a1.fGraph.fEdges x62).fFrom)) (rd a1.fGraph.fNodes ((rd a1.fGraph.fEdges x62).fTo)) t267 ht267) rfl)) <| DK.cons rfl rfl (.p rfl (.s 91 rfl .nil) rfl (q_not rfl)) <| DK.nil <| CSteps.nil <| QN.weaken (env' := [(92, _), (12, _), (62, _), (61, _), (60, _), (3, _), (2, _)]) (.o4 rfl (.o2 rfl (.one rfl (.nil _)))) <| QN.then_ ?_
       refine W.condP h rfl (fun hb268 h => ?_) (fun hb268 h => ?_)
       ·refine sr <| mv rfl rfl <| av rfl rfl <| ak rfl <| WL.nil <| QN.weaken (env' := [(5, _), (4, _)]) (.o2 rfl (.nil _)) <| QN.then_ <| W.ret <| QR.block <| QR.then_ <| QR.then_ <| QR.block ?_
        refine QR.then_ ?_
        cases h
        exact QR.f2 rfl rfl (.t rfl) (.t rfl) (.id _)
       ·refine W.skip <| QN.block <| QN.then_ <| W.region ?_
        obtain ⟨c269, h⟩ := ite_n h
        refine pk rfl 62 rfl (q_addR rfl c269) <| mv rfl rfl <| WL.nil ?_
        exact next1 () (x62 + 1) _ h (.o4 rfl (.one rfl (.nil _)))
     ·refine W.exit <| QX.then_ <| QX.then_ <| QX.here <| QN.then_ <| sr <| ak rfl <| ak rfl <| nt <| W.ret ?_
      cases h
      exact QR.f2 rfl rfl (.t rfl) (.t rfl) (.id _)
theorem attribute_given.con (k : Nat) (a0 : Types) (a1 : Pattern) (a2 : Host) (r : Int) (h : attribute_given k a0 a1 a2 = some r) : Con Tryz.prog 72 [] [AggA [SlcA kNodeType a0.fNodes, SlcA kEdgeType a0.fEdges], AggA [SlcA kInt a1.fGraph.fNodes, SlcA kEdge a1.fGraph.fEdges, SlcA kSlot a1.fSlots, iA a1.fVars, SlcA kTest a1.fTests], AggA [SlcA kInt a2.fGraph.fNodes, SlcA kEdge a2.fGraph.fEdges, SlcA (kSl kInt) a2.fValues]] (RA (iA r)) := by
 unfold attribute_given at h
 refine Con.of (N := 23) Tryz.func72 rfl rfl rfl fun w0_ fg_ => sr <| p1 rfl 0 rfl (q_box rfl (CellsOf.agg _)) <| p1 rfl 1 rfl (q_box rfl (CellsOf.agg _)) <| p1 rfl 2 rfl (q_box rfl (CellsOf.agg _)) <| ak rfl <| nt <| W.seq <| sr <| lS rfl rfl sh35 rfl rfl ?_
 refine lS rfl rfl sh42 rfl rfl ?_
 obtain ⟨t100, ht100, h⟩ := bind_s h
 refine p2 rfl 10 rfl 11 rfl (q_call (f := 18) (A := iA t100) (xs := [.tmp 10, .tmp 11]) («as» := [AggA [SlcA kNodeType a0.fNodes, SlcA kEdgeType a0.fEdges], AggA [SlcA kInt a1.fGraph.fNodes, SlcA kEdge a1.fGraph.fEdges, SlcA kSlot a1.fSlots, iA a1.fVars, SlcA kTest a1.fTests]]) rfl ca18 (attribute_Valid.con k a0 a1 t100 ht100) rfl) <| av rfl rfl <| WL.nil <| QN.weaken (env' := [(7, _), (5, _), (3, _)]) (.o2 rfl (.one rfl (.nil _))) <| QN.then_ <| sr <| mv rfl rfl <| pk rfl 13 rfl (q_int rfl rfl) <| nt ?_
 refine W.condP h rfl (fun hb101 h => ?_) (fun hb101 h => ?_)
 ·refine sr <| mv rfl rfl <| av rfl rfl <| nt <| W.ret <| QR.then_ ?_
  cases h
  exact QR.f1 rfl rfl (.t rfl) (.id _)
 ·refine W.skip <| QN.then_ <| sr <| lS rfl rfl sh35 rfl rfl <| lS rfl rfl sh60 rfl rfl ?_
  obtain ⟨t102, ht102, h⟩ := bind_s h
  refine p2 rfl 17 rfl 18 rfl (q_call (f := 118) (A := TupA [iA t102.1, iA t102.2]) (xs := [.tmp 17, .tmp 18]) («as» := [AggA [SlcA kNodeType a0.fNodes, SlcA kEdgeType a0.fEdges], AggA [SlcA kInt a2.fGraph.fNodes, SlcA kEdge a2.fGraph.fEdges, SlcA (kSl kInt) a2.fValues]]) rfl ca118 (host_Valid.con k a0 a2 t102 ht102) rfl) <| mv rfl rfl <| p1 rfl 16 rfl (q_extract rfl rfl) <| p1 rfl 16 rfl (q_extract rfl rfl) <| av rfl rfl <| av rfl rfl <| WL.nil <| QN.weaken (env' := [(9, _)]) (.one rfl (.nil _)) <| QN.then_ <| sr <| mv rfl rfl <| av rfl rfl ?_
  refine nt <| W.ret ?_
  cases h
  exact QR.f1 rfl rfl (.t rfl) (.id _)
theorem search_within_1.con (k : Nat) (a0 : Int) (a1 : Types) (r : Bool) (h : search_within_1 k a0 a1 = some r) : Con Tryz.prog 183 [] [iA a0, PtrA [SlcA kNodeType a1.fNodes, SlcA kEdgeType a1.fEdges]] (RA (bA r)) := by
 unfold search_within_1 at h
 refine Con.of (N := 9) Tryz.func183 rfl rfl rfl fun w0_ fg_ => sr <| ak rfl <| nx <| mv rfl rfl <| fd rfl rfl fo35_0 rfl <| ld rfl rfl sh32 <| p1 rfl 6 rfl (q_len rfl elS32) <| p2 rfl 4 rfl 7 rfl (q_int rfl rfl) ?_
 refine av rfl rfl <| WL.nil <| QN.weaken (env' := [(3, _)]) (.one rfl (.nil _)) <| QN.then_ <| W.ret ?_
 cases h
 exact QR.f1 rfl rfl (.t rfl) (.id _)
theorem search_within_2.con (k : Nat) (a0 : Edge) (a1 : Types) (r : Bool) (h : search_within_2 k a0 a1 = some r) : Con Tryz.prog 184 [] [AggA [iA a0.fType, iA a0.fFrom, iA a0.fTo], PtrA [SlcA kNodeType a1.fNodes, SlcA kEdgeType a1.fEdges]] (RA (bA r)) := by
 unfold search_within_2 at h
 refine Con.of (N := 10) Tryz.func184 rfl rfl rfl fun w0_ fg_ => sr <| p1 rfl 0 rfl (q_box rfl (CellsOf.agg _)) <| ak rfl <| nx <| fd rfl rfl fo109_0 rfl <| ld rfl rfl sh3 <| fd rfl rfl fo35_1 rfl <| ld rfl rfl sh33 ?_
 refine p1 rfl 7 rfl (q_len rfl elS33) <| p2 rfl 5 rfl 8 rfl (q_int rfl rfl) <| av rfl rfl <| WL.nil <| QN.weaken (env' := [(3, _)]) (.one rfl (.nil _)) <| QN.then_ <| W.ret ?_
 cases h
 exact QR.f1 rfl rfl (.t rfl) (.id _)
theorem search_within.con (k : Nat) (a0 : Types) (a1 : Graph) (r : Bool) (h : search_within k a0 a1 = some r) : Con Tryz.prog 158 [] [AggA [SlcA kNodeType a0.fNodes, SlcA kEdgeType a0.fEdges], AggA [SlcA kInt a1.fNodes, SlcA kEdge a1.fEdges]] (RA (bA r)) := by
 unfold search_within at h
 refine Con.of (N := 17) Tryz.func158 rfl rfl rfl fun w0_ fg_ => sr <| p1 rfl 0 rfl (q_box rfl (CellsOf.agg _)) <| p1 rfl 1 rfl (q_box rfl (CellsOf.agg _)) <| ak rfl <| nt <| W.seq ?_
 refine W.jn1 (Γ := Unit) (fun (_ : Unit) (x4 : Bool) => [(4, bA x4)]) (fun (_ : Unit) (_ : Bool) => []) h (fun _ x4 h => ?_) (fun j104 Kj104 h => ?_)
 ·refine QN.then_ <| W.ret ?_
  cases h
  exact QR.f1 rfl rfl (.t rfl) (.id _)
 ·refine W.region <| fd rfl rfl fo38_0 rfl <| ld rfl rfl sh26 <| p1 rfl 2 rfl (q_makeFunc (xs := [.tmp 2]) (L := [PtrA [SlcA kNodeType a0.fNodes, SlcA kEdgeType a0.fEdges]]) («as» := (fun (x : Int) => [iA x])) (res := (fun (y : Bool) => bA y)) (p := (fun x => search_within_1 k x a0)) rfl ca183 rfl (fun x y hp => (search_within_1.con k x a0 y hp))) ?_
  obtain ⟨t105, ht105, h⟩ := bind_s h
  refine p2 rfl 6 rfl 7 rfl (q_call (f := 51) (A := bA t105) (xs := [.tmp 6, .tmp 7]) («as» := [SlcA kInt a1.fNodes, FnA Tryz.prog (fun (x : Int) => [iA x]) (fun (y : Bool) => bA y) (fun x => search_within_1 k x a0)]) rfl ca51 (slices_ContainsFunc_int.con k a1.fNodes (fun x => search_within_1 k x a0) t105 ht105) rfl) <| p1 rfl 8 rfl (q_not rfl) <| mv rfl rfl ?_
  rcases bif_s h with ⟨hb106, h⟩ | ⟨hb106, h⟩
  ·refine wf rfl rfl rfl hb106 rfl rfl fo38_1 rfl <| wl rfl rfl rfl hb106 rfl rfl sh36 <| wq rfl rfl rfl hb106 (.s 2 rfl .nil) (q_makeFunc (xs := [.tmp 2]) (L := [PtrA [SlcA kNodeType a0.fNodes, SlcA kEdgeType a0.fEdges]]) («as» := (fun (x : Edge) => [AggA [iA x.fType, iA x.fFrom, iA x.fTo]])) (res := (fun (y : Bool) => bA y)) (p := (fun x => search_within_2 k x a0)) rfl ca184 rfl (fun x y hp => (search_within_2.con k x a0 y hp))).o ?_
   obtain ⟨t107, ht107, h⟩ := bind_s h
   refine wq rfl rfl rfl hb106 (.s 12 rfl (.s 13 rfl .nil)) (q_call (f := 53) (A := bA t107) (xs := [.tmp 12, .tmp 13]) («as» := [SlcA kEdge a1.fEdges, FnA Tryz.prog (fun (x : Edge) => [AggA [iA x.fType, iA x.fFrom, iA x.fTo]]) (fun (y : Bool) => bA y) (fun x => search_within_2 k x a0)]) rfl ca53 (slices_ContainsFunc_Edge.con k a1.fEdges (fun x => search_within_2 k x a0) t107 ht107) rfl).o <| wq rfl rfl rfl hb106 (.s 14 rfl .nil) (q_not rfl).o <| p2 rfl 10 rfl 15 rfl (q_pickT rfl hb106) <| av rfl rfl <| WL.nil ?_
   exact QN.weaken (.one rfl (.nil _)) (Kj104 () (!t107) h)
  ·refine sk rfl rfl rfl hb106 <| sk rfl rfl rfl hb106 <| sk rfl rfl rfl hb106 <| sk rfl rfl rfl hb106 <| sk rfl rfl rfl hb106 <| pk rfl 10 rfl (q_pickF rfl hb106) <| av rfl rfl <| WL.nil ?_
   exact QN.weaken (.one rfl (.nil _)) (Kj104 () false h)
theorem search_valid.con (k : Nat) (a0 : Types) (a1 : Graph) (a2 : Graph) (r : Int) (h : search_valid k a0 a1 a2 = some r) : Con Tryz.prog 119 [] [AggA [SlcA kNodeType a0.fNodes, SlcA kEdgeType a0.fEdges], AggA [SlcA kInt a1.fNodes, SlcA kEdge a1.fEdges], AggA [SlcA kInt a2.fNodes, SlcA kEdge a2.fEdges]] (RA (iA r)) := by
 unfold search_valid at h
 refine Con.of (N := 44) Tryz.func119 rfl rfl rfl fun w0_ fg_ => sr <| p1 rfl 0 rfl (q_box rfl (CellsOf.agg _)) <| p1 rfl 1 rfl (q_box rfl (CellsOf.agg _)) <| p1 rfl 2 rfl (q_box rfl (CellsOf.agg _)) <| ak rfl <| nt <| W.seq <| sr <| lS rfl rfl sh35 rfl rfl ?_
 obtain ⟨t100, ht100, h⟩ := bind_s h
 refine p1 rfl 13 rfl (q_call (f := 49) (A := TupA [EqA (strV t100.1), iA t100.2]) (xs := [.tmp 13]) («as» := [AggA [SlcA kNodeType a0.fNodes, SlcA kEdgeType a0.fEdges]]) rfl ca49 (types_Valid.con k a0 t100 ht100) rfl) <| mv rfl rfl <| p1 rfl 12 rfl (q_extract rfl rfl) <| p1 rfl 12 rfl (q_extract rfl rfl) <| av rfl rfl <| av rfl rfl <| WL.nil <| QN.weaken (env' := [(8, _), (5, _), (4, _), (3, _)]) (.o4 rfl (.nil _)) <| QN.then_ <| sr <| mv rfl rfl <| pk rfl 17 rfl (q_int rfl rfl) ?_
 refine nt ?_
 refine W.condP h rfl (fun hb101 h => ?_) (fun hb101 h => ?_)
 ·refine sr <| mv rfl rfl <| av rfl rfl <| WL.nil <| QN.weaken (env' := [(6, _)]) (.one rfl (.nil _)) <| QN.then_ <| W.ret <| QR.then_ ?_
  cases h
  exact QR.f1 rfl rfl (.t rfl) (.id _)
 ·refine W.skip <| QN.then_ <| W.seq <| sr <| lS rfl rfl sh38 rfl rfl <| lS rfl rfl sh38 rfl rfl <| p2 rfl 20 rfl 21 rfl (q_lit (kd := kGraph) (ps := [(0, .tmp 20), (1, .tmp 21)]) (xs := [.tmp 20, .tmp 21]) («as» := [AggA [SlcA kInt a1.fNodes, SlcA kEdge a1.fEdges], AggA [SlcA kInt a2.fNodes, SlcA kEdge a2.fEdges]]) (ys := [a1, a2]) rfl rfl el199 rfl gr38 rfl rfl rfl (.cons (CellsOf.agg _) (.cons (CellsOf.agg _) .nil))) <| p1 rfl 22 rfl (q_len rfl elS199) <| mk_ rfl <| nt <| W.block ?_
  refine W.loop1 (Γ := Unit) (fun (_ : Unit) (x24 : Int) => [(3, PtrA [SlcA kNodeType a0.fNodes, SlcA kEdgeType a0.fEdges]), (4, PtrA [SlcA kInt a1.fNodes, SlcA kEdge a1.fEdges]), (5, PtrA [SlcA kInt a2.fNodes, SlcA kEdge a2.fEdges]), (22, SlcA kGraph [a1, a2]), (23, iA ([a1, a2].length : Int)), (24, iA x24)]) (fun (_ : Unit) (_ : Int) => []) h () (.o4 rfl (.o2 rfl (.nil _))) rfl (fun rec0 K0 next0 _ x24 h => ?_)
  unfold search_valid.b0 at h
  refine sr <| p2 rfl 24 rfl 23 rfl (q_int rfl rfl) <| nt <| W.seq ?_
  refine W.condP h rfl (fun hb132 h => ?_) (fun hb132 h => ?_)
  ·refine W.skip <| QN.then_ <| W.seq <| W.block <| sr ?_
   obtain ⟨c133, h⟩ := ite_n h
   refine p2 rfl 22 rfl 24 rfl (q_index rfl el199 rfl c133.1 c133.2) <| lS rfl rfl sh38 rfl rfl <| WL.w [] rfl (Wanted.plain rfl) rfl rfl .nil (w_alloc rfl z38 (l := [EqA (.slice none 0 0), EqA (.slice none 0 0)]) rfl) ?_
   rintro _ _ ⟨b134, rfl, rfl⟩
   refine WL.w0 [0] rfl (Wanted.plain rfl) rfl (.s 10 rfl (.s 27 rfl .nil)) (w_store (L := [SlcA kInt ((rd [a1, a2] x24).fNodes), SlcA kEdge ((rd [a1, a2] x24).fEdges)]) rfl sh38 (CellsOf.agg _) rfl rfl (leB rfl) rfl) ?_
   rintro _ _ ⟨rfl, rfl⟩
   refine WL.nil <| QN.to (StTo.still [0] 10 rfl rfl) <| QN.then_ <| sr <| lS rfl rfl sh38 rfl rfl ?_
   obtain ⟨t135, ht135, h⟩ := bind_s h
   refine p1 rfl 28 rfl (q_call (f := 50) (A := iA t135) (xs := [.tmp 28]) («as» := [AggA [SlcA kInt ((rd [a1, a2] x24).fNodes), SlcA kEdge ((rd [a1, a2] x24).fEdges)]]) rfl ca50 (graph_Valid.con k (rd [a1, a2] x24) t135 ht135) rfl) <| av rfl rfl <| nx <| mv rfl rfl <| pk rfl 30 rfl (q_int rfl rfl) <| WL.nil <| QN.weaken (env' := [(31, _), (11, _), (24, _), (23, _), (22, _), (5, _), (4, _), (3, _)]) (.o4 rfl (.o4 rfl (.nil _))) <| QN.then_ ?_
   refine W.condP h rfl (fun hb136 h => ?_) (fun hb136 h => ?_)
   ·refine sr <| mv rfl rfl <| av rfl rfl <| WL.nil <| QN.weaken (env' := [(6, _)]) (.one rfl (.nil _)) <| QN.then_ <| W.ret <| QR.block <| QR.then_ <| QR.then_ <| QR.block <| QR.then_ ?_
    cases h
    exact QR.f1 rfl rfl (.t rfl) (.id _)
   ·refine W.skip <| QN.block <| QN.then_ <| W.region ?_
    obtain ⟨c137, h⟩ := ite_n h
    refine pk rfl 24 rfl (q_addR rfl c137) <| mv rfl rfl <| WL.nil ?_
    exact next0 () (x24 + 1) _ h (.o4 rfl (.o2 rfl (.nil _)))
  ·refine W.exit <| QX.then_ <| QX.then_ <| QX.here <| QN.then_ <| W.seq <| W.seq ?_
   refine W.jn1 (Γ := Unit) (fun (_ : Unit) (x43 : Bool) => [(43, bA x43)]) (fun (_ : Unit) (_ : Bool) => []) h (fun _ x43 h => ?_) (fun j142 Kj142 h => ?_)
   ·refine QN.then_ ?_
    refine W.condP h rfl (fun hb143 h => ?_) (fun hb143 h => ?_)
    ·refine sr <| ak rfl <| nt <| W.ret <| QR.then_ ?_
     cases h
     exact QR.f1 rfl rfl (.t rfl) (.id _)
    ·refine W.skip <| QN.then_ <| sr <| ak rfl <| nt <| W.ret ?_
     cases h
     exact QR.f1 rfl rfl (.t rfl) (.id _)
   ·refine W.region <| lS rfl rfl sh35 rfl rfl <| lS rfl rfl sh38 rfl rfl ?_
    obtain ⟨t144, ht144, h⟩ := bind_s h
    refine p2 rfl 34 rfl 35 rfl (q_call (f := 158) (A := bA t144) (xs := [.tmp 34, .tmp 35]) («as» := [AggA [SlcA kNodeType a0.fNodes, SlcA kEdgeType a0.fEdges], AggA [SlcA kInt a1.fNodes, SlcA kEdge a1.fEdges]]) rfl ca158 (search_within.con k a0 a1 t144 ht144) rfl) <| p1 rfl 36 rfl (q_not rfl) <| mv rfl rfl ?_
    rcases bif_s h with ⟨hb145, h⟩ | ⟨hb145, h⟩
    ·refine sk rfl rfl rfl hb145 <| sk rfl rfl rfl hb145 <| sk rfl rfl rfl hb145 <| sk rfl rfl rfl hb145 <| pk rfl 38 rfl (q_pickT rfl hb145) <| WL.nil ?_
     exact QN.weaken (.one rfl (.nil _)) (Kj142 () true h)
    ·refine wq rfl rfl rfl hb145 (.s 3 rfl .nil) (q_loadS rfl sh35 (leB rfl) rfl).o <| wq rfl rfl rfl hb145 (.s 5 rfl .nil) (q_loadS rfl sh38 (leB rfl) rfl).o ?_
     obtain ⟨t146, ht146, h⟩ := bind_s h
     refine wq rfl rfl rfl hb145 (.s 39 rfl (.s 40 rfl .nil)) (q_call (f := 158) (A := bA t146) (xs := [.tmp 39, .tmp 40]) («as» := [AggA [SlcA kNodeType a0.fNodes, SlcA kEdgeType a0.fEdges], AggA [SlcA kInt a2.fNodes, SlcA kEdge a2.fEdges]]) rfl ca158 (search_within.con k a0 a2 t146 ht146) rfl).o <| wq rfl rfl rfl hb145 (.s 41 rfl .nil) (q_not rfl).o <| p2 rfl 38 rfl 42 rfl (q_pickF rfl hb145) <| WL.nil ?_
     exact QN.weaken (.one rfl (.nil _)) (Kj142 () (!t146) h)
theorem types_Below.con (k : Nat) (a0 : Types) (a1 : Int) (r : ((List Int) × Int)) (h : types_Below k a0 a1 = some r) : Con Tryz.prog 128 [] [AggA [SlcA kNodeType a0.fNodes, SlcA kEdgeType a0.fEdges], iA a1] (RA (TupA [SlcA kInt r.1, iA r.2])) := by
 unfold types_Below at h
 refine Con.of (N := 32) Tryz.func128 rfl rfl rfl fun w0_ fg_ => sr <| p1 rfl 0 rfl (q_box rfl (CellsOf.agg _)) <| ak rfl <| ak rfl <| nt <| W.seq <| sr <| lS rfl rfl sh35 rfl rfl <| mv rfl rfl ?_
 refine p1 rfl 10 rfl (q_lit (kd := kInt) (ps := [(0, .tmp 10)]) (xs := [.tmp 10]) («as» := [iA a1]) (ys := [a1]) rfl rfl el26 rfl gr3 rfl rfl rfl (.cons (CellsOf.one rfl) .nil)) ?_
 obtain ⟨t100, ht100, h⟩ := bind_s h
 refine p2 rfl 9 rfl 11 rfl (q_call (f := 133) (A := iA t100) (xs := [.tmp 9, .tmp 11]) («as» := [AggA [SlcA kNodeType a0.fNodes, SlcA kEdgeType a0.fEdges], SlcA kInt [a1]]) rfl ca133 (types_given.con k a0 [a1] t100 ht100) rfl) <| av rfl rfl <| WL.nil <| QN.weaken (env' := [(6, _), (2, _), (1, _)]) (.o2 rfl (.one rfl (.nil _))) <| QN.then_ <| sr <| mv rfl rfl <| pk rfl 13 rfl (q_int rfl rfl) <| nt ?_
 refine W.condP h rfl (fun hb101 h => ?_) (fun hb101 h => ?_)
 ·refine sr <| mv rfl rfl <| ak rfl <| av rfl rfl <| nt <| W.ret <| QR.then_ ?_
  cases h
  exact QR.f2 rfl rfl (.t rfl) (.t rfl) (.imp (Imp.tup (.cons (Imp.nil kInt) (.cons (Imp.id _) .nil))))
 ·refine W.skip <| QN.then_ <| sr <| ak rfl <| nt <| W.seq <| sr <| fd rfl rfl fo35_0 rfl <| ld rfl rfl sh32 <| p1 rfl 17 rfl (q_len rfl elS32) ?_
  refine mk_ rfl <| nt <| W.block <| W.to (StTo.newNil 3 kInt) <| W.to (StTo.as 7 rfl Imp.nilHd) ?_
  refine W.loop2 (Γ := Value) (fun (g0 : Value) (_ : (List Int)) (x19 : Int) => [(1, iA a1), (2, PtrA [SlcA kNodeType a0.fNodes, SlcA kEdgeType a0.fEdges]), (7, HdA g0), (18, iA (a0.fNodes.length : Int)), (19, iA x19)]) (fun (g0 : Value) (x7 : (List Int)) (_ : Int) => [SlE 3 g0 kInt x7]) h (.slice none 0 0) (.o4 rfl (.one rfl (.nil _))) rfl (fun rec0 K0 next0 g0 x7 x19 h => ?_)
  unfold types_Below.b0 at h
  refine sr <| p2 rfl 19 rfl 18 rfl (q_int rfl rfl) <| nt <| W.seq ?_
  refine W.condP h rfl (fun hb130 h => ?_) (fun hb130 h => ?_)
  ·refine W.skip <| QN.then_ <| W.seq <| W.block <| sr <| mv rfl rfl <| av rfl rfl <| nx <| lS rfl rfl sh35 rfl rfl ?_
   refine mv rfl rfl <| mv rfl rfl ?_
   obtain ⟨t131, ht131, h⟩ := bind_s h
   refine WL.p rfl rfl rfl (.s 22 rfl (.s 23 rfl (.s 24 rfl .nil))) (q_call (f := 172) (A := bA t131) (xs := [.tmp 22, .tmp 23, .tmp 24]) («as» := [AggA [SlcA kNodeType a0.fNodes, SlcA kEdgeType a0.fEdges], iA x19, iA a1]) rfl ca172 (types_is.con k a0 x19 a1 t131 ht131) rfl) <| nt ?_
   refine W.condP h rfl (fun hb135 h => ?_) (fun hb135 h => ?_)
   ·refine W.region <| mv rfl rfl <| mv rfl rfl <| p1 rfl 27 rfl (q_lit (kd := kInt) (ps := [(0, .tmp 27)]) (xs := [.tmp 27]) («as» := [iA x19]) (ys := [x19]) rfl rfl el26 rfl gr3 rfl rfl rfl (.cons (CellsOf.one rfl) .nil)) ?_
    obtain ⟨c136, h⟩ := ite_n h
    refine WL.w [0] rfl (Wanted.plain rfl) rfl rfl (.s 26 rfl (.s 28 rfl .nil)) (w_append (kd := kInt) rfl el26 rfl gr3 c136) ?_
    rintro _ _ ⟨v137, rfl, rfl⟩
    refine av rfl rfl <| WL.nil <| QN.block <| QN.weaken (env' := [(7, _), (19, _), (18, _), (2, _), (1, _)]) (.o4 rfl (.one rfl (.nil _))) <| QN.then_ <| W.region ?_
    obtain ⟨c138, h⟩ := ite_n h
    refine pk rfl 19 rfl (q_addR rfl c138) <| mv rfl rfl <| WL.nil ?_
    exact next0 v137 (x7 ++ [x19]) (x19 + 1) _ h (.o4 rfl (.one rfl (.nil _)))
   ·refine W.skip <| QN.block <| QN.weaken (env' := [(19, _), (18, _), (7, _), (2, _), (1, _)]) (.o4 rfl (.one rfl (.nil _))) <| QN.then_ <| W.region ?_
    obtain ⟨c139, h⟩ := ite_n h
    refine pk rfl 19 rfl (q_addR rfl c139) <| mv rfl rfl <| WL.nil ?_
    exact next0 g0 x7 (x19 + 1) _ h (.o4 rfl (.one rfl (.nil _)))
  ·refine W.exit <| QX.then_ <| QX.then_ <| QX.here <| QN.then_ <| sr <| mv rfl rfl <| av rfl rfl <| ak rfl <| WL.nil <| QN.weaken (env' := [(5, _), (4, _)]) (.o2 rfl (.nil _)) <| QN.then_ ?_
   refine W.ret ?_
   cases h
   exact QR.f2 rfl rfl (.t rfl) (.t rfl) (.tup (.cons (.slc 0 rfl) (.cons (.id _) .nil)))
theorem search_below.con (k : Nat) (a0 : Types) (r : (List (List Bool))) (h : search_below k a0 = some r) : Con Tryz.prog 159 [] [AggA [SlcA kNodeType a0.fNodes, SlcA kEdgeType a0.fEdges]] (RA (SlcA (kSl kBool) r)) := by
 unfold search_below at h
 refine Con.of (N := 42) Tryz.func159 rfl rfl rfl fun w0_ fg_ => sr <| p1 rfl 0 rfl (q_box rfl (CellsOf.agg _)) <| ak rfl <| nx <| ak rfl <| nt <| W.seq ?_
 refine sr <| fd rfl rfl fo35_0 rfl <| ld rfl rfl sh32 <| p1 rfl 11 rfl (q_len rfl elS32) <| mk_ rfl <| nt <| W.block <| W.to (StTo.newNil 111 (kSl kBool)) <| W.to (StTo.as 3 rfl Imp.nilHd) ?_
 refine W.loop2 (Γ := Value) (fun (g0 : Value) (_ : (List (List Bool))) (x13 : Int) => [(1, PtrA [SlcA kNodeType a0.fNodes, SlcA kEdgeType a0.fEdges]), (3, HdA g0), (12, iA (a0.fNodes.length : Int)), (13, iA x13)]) (fun (g0 : Value) (x3 : (List (List Bool))) (_ : Int) => [SlE 111 g0 (kSl kBool) x3]) h (.slice none 0 0) (.o4 rfl (.nil _)) rfl (fun rec0 K0 next0 g0 x3 x13 h => ?_)
 unfold search_below.b0 at h
 refine sr <| p2 rfl 13 rfl 12 rfl (q_int rfl rfl) <| nt <| W.seq ?_
 refine W.condP h rfl (fun hb157 h => ?_) (fun hb157 h => ?_)
 ·refine W.skip <| QN.then_ <| W.seq <| W.block <| sr <| mv rfl rfl <| av rfl rfl <| nx <| fd rfl rfl fo35_0 rfl ?_
  refine ld rfl rfl sh32 <| p1 rfl 17 rfl (q_len rfl elS32) ?_
  obtain ⟨c158, h⟩ := ite_n h
  refine WL.w [] rfl (Wanted.plain rfl) rfl rfl (.s 18 rfl (.s 18 rfl .nil)) (w_make (kd := kBool) (z := false) rfl el111 rfl gr4 z4 rfl c158.1 c158.2) ?_
  rintro _ _ ⟨v159, rfl, rfl⟩
  refine av rfl rfl <| nx <| lS rfl rfl sh35 rfl rfl <| mv rfl rfl ?_
  obtain ⟨t160, ht160, h⟩ := bind_s h
  refine p2 rfl 21 rfl 22 rfl (q_call (f := 128) (A := TupA [SlcA kInt t160.1, iA t160.2]) (xs := [.tmp 21, .tmp 22]) («as» := [AggA [SlcA kNodeType a0.fNodes, SlcA kEdgeType a0.fEdges], iA x13]) rfl ca128 (types_Below.con k a0 x13 t160 ht160) rfl) <| mv rfl rfl <| p1 rfl 20 rfl (q_extract rfl rfl) <| p1 rfl 20 rfl (q_extract rfl rfl) <| av rfl rfl <| av rfl rfl <| WL.nil <| QN.weaken (env' := [(6, _), (5, _), (13, _), (12, _), (3, _), (1, _)]) (.o4 rfl (.o2 rfl (.nil _))) <| QN.then_ <| W.seq <| sr <| mv rfl rfl ?_
  refine p1 rfl 26 rfl (q_len rfl elS26) <| mk_ rfl <| nt <| W.block <| W.order [1, 0] rfl ?_
  refine W.loop2 (Γ := Unit) (fun (_ : Unit) (_ : (List Bool)) (x28 : Int) => [(1, PtrA [SlcA kNodeType a0.fNodes, SlcA kEdgeType a0.fEdges]), (3, HdA g0), (12, iA (a0.fNodes.length : Int)), (13, iA x13), (5, HdA v159), (26, SlcA kInt t160.1), (27, iA (t160.1.length : Int)), (28, iA x28)]) (fun (_ : Unit) (x5 : (List Bool)) (_ : Int) => [SlE 111 g0 (kSl kBool) x3, SlE 4 v159 kBool x5]) h () (.o4 rfl (.o4 rfl (.nil _))) rfl (fun rec1 K1 next1 _ x5 x28 h => ?_)
  unfold search_below.b1 at h
  refine sr <| p2 rfl 28 rfl 27 rfl (q_int rfl rfl) <| nt <| W.seq ?_
  refine W.condP h rfl (fun hb175 h => ?_) (fun hb175 h => ?_)
  ·refine W.skip <| QN.then_ <| W.seq <| W.block <| sr ?_
   obtain ⟨c176, h⟩ := ite_n h
   refine p2 rfl 26 rfl 28 rfl (q_index rfl el26 rfl c176.1 c176.2) <| ld rfl rfl sh3 <| av rfl rfl <| nt <| W.region <| mv rfl rfl <| mv rfl rfl ?_
   obtain ⟨c177, h⟩ := ite_n h
   refine WL.q (Wanted.plain rfl) rfl rfl (.s 32 rfl (.s 33 rfl .nil)) (q_indexO rfl el111 (j := 1) rfl c177.1 c177.2) <| WL.w0 [1] rfl (Wanted.plain rfl) rfl (.s 34 rfl (.k .nil)) (w_storeEl (kd := kBool) (z := true) rfl sh4 (CellsOf.one rfl) rfl rfl rfl c177.1 c177.2 rfl rfl) ?_
   rintro _ _ ⟨rfl, rfl⟩
   refine WL.nil <| QN.block <| QN.weaken (env' := [(28, _), (27, _), (26, _), (5, _), (13, _), (12, _), (3, _), (1, _)]) (.o4 rfl (.o4 rfl (.nil _))) <| QN.then_ <| W.region ?_
   obtain ⟨c178, h⟩ := ite_n h
   refine pk rfl 28 rfl (q_addR rfl c178) <| mv rfl rfl <| WL.nil <| QN.order [1, 0] rfl ?_
   exact next1 () (x5.set ((rd t160.1 x28) : Int).toNat true) (x28 + 1) _ h (.o4 rfl (.o4 rfl (.nil _)))
  ·refine W.exit <| QX.then_ <| QX.then_ <| QX.here <| QN.then_ <| W.region <| mv rfl rfl <| mv rfl rfl <| WL.to (StTo.freeze [1] 37 rfl rfl) <| p1 rfl 37 rfl (q_lit (kd := (kSl kBool)) (ps := [(0, .tmp 37)]) (xs := [.tmp 37]) («as» := [SlcA kBool x5]) (ys := [x5]) rfl rfl el200 rfl gr111 rfl rfl rfl (.cons (CellsOf.one rfl) .nil)) ?_
   obtain ⟨c179, h⟩ := ite_n h
   refine WL.w [0] rfl (Wanted.plain rfl) rfl rfl (.s 36 rfl (.s 38 rfl .nil)) (w_append (kd := (kSl kBool)) rfl el200 rfl gr111 c179) ?_
   rintro _ _ ⟨v180, rfl, rfl⟩
   refine av rfl rfl <| WL.nil <| QN.block <| QN.weaken (env' := [(3, _), (13, _), (12, _), (1, _)]) (.o4 rfl (.nil _)) <| QN.then_ <| W.region ?_
   obtain ⟨c181, h⟩ := ite_n h
   refine pk rfl 13 rfl (q_addR rfl c181) <| mv rfl rfl <| WL.nil ?_
   exact next0 v180 (x3 ++ [x5]) (x13 + 1) _ h (.o4 rfl (.nil _))
 ·refine W.exit <| QX.then_ <| QX.then_ <| QX.here <| QN.then_ <| sr <| mv rfl rfl <| av rfl rfl <| nt <| W.ret ?_
  cases h
  exact QR.f1 rfl rfl (.t rfl) (.slc 0 rfl)
theorem search_given.con (k : Nat) (a0 : (Option (List Int))) (a1 : Int) (r : Int) (h : search_given k a0 a1 = some r) : Con Tryz.prog 207 [] [OptA kInt a0, iA a1] (RA (iA r)) := by
  cases a0 with
  | none =>
    have hr : -1 = r := some_s h
    subst hr
    refine Con.of (N := 11) Tryz.func207 rfl rfl rfl fun w0_ fg_ => ?_
    refine W.seq (W.region (ak rfl (WL.nil (QN.then_ ?_))))
    refine W.seq (W.seq (W.region (mv rfl rfl (p1 rfl 5 rfl (QS.need (q_nilNil rfl elS26) (Imp.ofN kInt)) (WL.nil (QN.then_ ?_))))))
    refine W.condT rfl rfl ?_
    refine W.seq (W.region (ak rfl (WL.nil (QN.then_ ?_))))
    exact W.ret (QR.then_ (QR.f1 rfl rfl (.t rfl) (.id _)))
  | some l =>
    obtain ⟨hc, h⟩ := ite_n h
    cases h
    refine Con.of (N := 11) Tryz.func207 rfl rfl rfl fun w0_ fg_ => ?_
    refine W.seq (W.region (ak rfl (WL.nil (QN.then_ ?_))))
    refine W.seq (W.seq (W.region (mv rfl rfl (p1 rfl 5 rfl (QS.need (q_nilEq (kd := kInt) (xs := l) rfl elS26 (by rintro rfl; simp at hc; omega) rfl) (Imp.ofS kInt l)) (WL.nil (QN.then_ ?_))))))
    refine W.condF rfl rfl (W.skip (QN.then_ ?_))
    refine W.seq (W.region ?_)
    refine mv rfl rfl ?_
    refine mv rfl rfl ?_
    refine p2 rfl 7 rfl 8 rfl (QS.need (q_index (kd := kInt) (xs := l) rfl el26 rfl hc.1 hc.2) (Imp.ofS kInt l)) ?_
    refine ld rfl rfl sh3 ?_
    refine av rfl rfl ?_
    refine WL.nil (QN.then_ ?_)
    exact W.ret (QR.f1 rfl rfl (.t rfl) (.id _))
theorem search_finder_fits.con (k : Nat) (a0 : Finder) (a1 : Int) (a2 : Int) (r : Bool) (h : search_finder_fits k a0 a1 a2 = some r) : Con Tryz.prog 209 [] [PtrA [SlcA kInt a0.fp.fNodes, SlcA kEdge a0.fp.fEdges, SlcA kInt a0.fg.fNodes, SlcA kEdge a0.fg.fEdges, SlcA (kSl kBool) a0.fis, OptA kInt a0.fpartial.fNodes, OptA kInt a0.fpartial.fEdges, bA a0.finjective, iA a0.fmost, SlcA kInt a0.fnodes, SlcA kInt a0.fedges, SlcA kMorphism a0.fout], iA a1, iA a2] (RA (bA r)) := by
 unfold search_finder_fits at h
 refine Con.of (N := 59) Tryz.func209 rfl rfl rfl fun w0_ fg_ => sr <| ak rfl <| nx <| mv rfl rfl <| p1 rfl 9 rfl (q_nilCheck rfl) <| fd rfl rfl fo238_0 rfl <| fd rfl rfl fo38_1 rfl <| ld rfl rfl sh36 ?_
 refine mv rfl rfl ?_
 obtain ⟨c100, h⟩ := ite_n h
 refine p2 rfl 13 rfl 14 rfl (q_index rfl el36 rfl c100.1 c100.2) <| lS rfl rfl sh109 rfl rfl <| WL.w [] rfl (Wanted.plain rfl) rfl rfl .nil (w_alloc rfl z109 (l := [iA 0, iA 0, iA 0]) rfl) ?_
 rintro _ _ ⟨b101, rfl, rfl⟩
 refine WL.w0 [0] rfl (Wanted.plain rfl) rfl (.s 7 rfl (.s 16 rfl .nil)) (w_store (L := [iA ((rd a0.fp.fEdges a1).fType), iA ((rd a0.fp.fEdges a1).fFrom), iA ((rd a0.fp.fEdges a1).fTo)]) rfl sh109 (CellsOf.agg _) rfl rfl (leB rfl) rfl) ?_
 rintro _ _ ⟨rfl, rfl⟩
 refine WL.nil <| QN.to (StTo.still [0] 7 rfl rfl) <| QN.weaken (env' := [(7, _), (2, _), (1, _), (0, _)]) (.o4 rfl (.nil _)) <| QN.then_ <| W.seq <| sr <| mv rfl rfl <| p1 rfl 17 rfl (q_nilCheck rfl) <| fd rfl rfl fo238_3 rfl <| fd rfl rfl fo64_1 rfl <| ld rfl rfl sh26 <| mv rfl rfl ?_
 obtain ⟨t102, ht102, h⟩ := bind_s h
 refine p2 rfl 21 rfl 22 rfl (q_call (f := 207) (A := iA t102) (xs := [.tmp 21, .tmp 22]) («as» := [OptA kInt a0.fpartial.fEdges, iA a1]) rfl ca207 (search_given.con k a0.fpartial.fEdges a1 t102 ht102) rfl) <| av rfl rfl <| WL.nil <| QN.weaken (env' := [(8, _), (7, _), (2, _), (0, _)]) (.o4 rfl (.nil _)) <| QN.then_ <| W.seq ?_
 refine W.jn1 (Γ := Unit) (fun (_ : Unit) (x30 : Bool) => [(0, PtrA [SlcA kInt a0.fp.fNodes, SlcA kEdge a0.fp.fEdges, SlcA kInt a0.fg.fNodes, SlcA kEdge a0.fg.fEdges, SlcA (kSl kBool) a0.fis, OptA kInt a0.fpartial.fNodes, OptA kInt a0.fpartial.fEdges, bA a0.finjective, iA a0.fmost, SlcA kInt a0.fnodes, SlcA kInt a0.fedges, SlcA kMorphism a0.fout]), (2, iA a2), (7, PtrA [iA ((rd a0.fp.fEdges a1).fType), iA ((rd a0.fp.fEdges a1).fFrom), iA ((rd a0.fp.fEdges a1).fTo)]), (30, bA x30)]) (fun (_ : Unit) (_ : Bool) => []) h (fun _ x30 h => ?_) (fun j105 Kj105 h => ?_)
 ·refine QN.then_ ?_
  refine W.condP h rfl (fun hb106 h => ?_) (fun hb106 h => ?_)
  ·refine sr <| ak rfl <| nt <| W.ret <| QR.then_ ?_
   cases h
   exact QR.f1 rfl rfl (.t rfl) (.id _)
  ·refine W.skip <| QN.then_ <| W.seq <| W.drawK [(0, false), (1, false), (2, false), (3, false), (4, false), (5, false), (6, false), (7, false), (8, false), (9, false), (10, false), (11, false), (12, false), (13, false), (14, false), (15, false), (16, false), (17, false), (18, false), (19, false), (20, false), (21, false), (22, false), (23, false), (24, false), (25, false), (26, false), (27, false), (28, false)] [] (bm [0, 1, 3, 7, 15, 0, 63, 127, 0, 256, 0, 1024, 3072, 7168, 0, 16384, 64512, 130048, 0, 262144, 786432, 1835008, 0, 4194304, 16515072, 33292288, 67108608, 134217727, 268435455]) mx (by kernel_rfl) <| dm rfl rfl rfl <| DK.cons rfl rfl (.p rfl (.s 31 rfl .nil) rfl (q_nilCheck rfl)) <| df rfl rfl rfl fo238_1 rfl <| df rfl rfl rfl fo38_1 rfl <| dl rfl rfl rfl sh36 <| dm rfl rfl rfl ?_
   obtain ⟨c113, h⟩ := ite_n h
   refine DK.cons rfl rfl (.p rfl (.s 35 rfl (.s 36 rfl .nil)) rfl (q_index rfl el36 rfl c113.1 c113.2)) <| DK.cons rfl rfl (.p rfl (.s 37 rfl .nil) rfl (q_loadS rfl sh109 (leB rfl) rfl)) <| df rfl rfl rfl fo109_0 rfl <| dl rfl rfl rfl sh3 <| dm rfl rfl rfl <| DK.cons rfl rfl (.p rfl (.s 41 rfl .nil) rfl (q_nilCheck rfl)) <| df rfl rfl rfl fo238_6 rfl <| dl rfl rfl rfl sh26 <| df rfl rfl rfl fo109_1 rfl <| dl rfl rfl rfl sh3 ?_
   obtain ⟨c114, h⟩ := ite_n h
   refine DK.cons rfl rfl (.p rfl (.s 44 rfl (.s 46 rfl .nil)) rfl (q_index rfl el26 rfl c114.1 c114.2)) <| dl rfl rfl rfl sh3 <| dm rfl rfl rfl <| DK.cons rfl rfl (.p rfl (.s 49 rfl .nil) rfl (q_nilCheck rfl)) <| df rfl rfl rfl fo238_6 rfl <| dl rfl rfl rfl sh26 <| df rfl rfl rfl fo109_2 rfl <| dl rfl rfl rfl sh3 ?_
   obtain ⟨c115, h⟩ := ite_n h
   refine DK.cons rfl rfl (.p rfl (.s 52 rfl (.s 54 rfl .nil)) rfl (q_index rfl el26 rfl c115.1 c115.2)) <| dl rfl rfl rfl sh3 <| DK.cons rfl rfl (.p rfl (.s 40 rfl (.s 48 rfl (.s 56 rfl .nil))) rfl (q_build (is := [0, 1, 2]) (xs := [.tmp 40, .tmp 48, .tmp 56]) (L := [iA ((rd a0.fp.fEdges a1).fType), iA (rd a0.fnodes ((rd a0.fp.fEdges a1).fFrom)), iA (rd a0.fnodes ((rd a0.fp.fEdges a1).fTo))]) rfl rfl z109 pl109 rfl rfl (.cons (CellsOf.one rfl) (.cons (CellsOf.one rfl) (.cons (CellsOf.one rfl) .nil))) rfl)) <| DK.cons rfl rfl (.p rfl (.s 38 rfl (.s 57 rfl .nil)) rfl (q_eqI (ms := [(rd a0.fg.fEdges a2).fType, (rd a0.fg.fEdges a2).fFrom, (rd a0.fg.fEdges a2).fTo]) (ns := [(rd a0.fp.fEdges a1).fType, (rd a0.fnodes ((rd a0.fp.fEdges a1).fFrom)), (rd a0.fnodes ((rd a0.fp.fEdges a1).fTo))]) rfl issI_109)) <| DK.cons rfl rfl (.p rfl (.s 58 rfl .nil) rfl (q_assign rfl)) <| DK.nil <| CSteps.nil <| QN.weaken (env' := [(6, _)]) (.one rfl (.nil _)) <| QN.then_ <| W.ret ?_
   cases h
   exact QR.f1 rfl rfl (.t rfl) (.id _)
 ·refine W.region <| mv rfl rfl <| pk rfl 24 rfl (q_int rfl rfl) <| mv rfl rfl ?_
  rcases bif_s h with ⟨hb116, h⟩ | ⟨hb116, h⟩
  ·refine wm rfl rfl rfl hb116 rfl rfl <| wm rfl rfl rfl hb116 rfl rfl <| wq rfl rfl rfl hb116 (.s 27 rfl (.s 28 rfl .nil)) (q_int rfl rfl).o <| p2 rfl 26 rfl 29 rfl (q_pickT rfl hb116) <| WL.nil ?_
   exact QN.weaken (.o4 rfl (.nil _)) (Kj105 () (t102 != a2) h)
  ·refine sk rfl rfl rfl hb116 <| sk rfl rfl rfl hb116 <| sk rfl rfl rfl hb116 <| pk rfl 26 rfl (q_pickF rfl hb116) <| WL.nil ?_
   exact QN.weaken (.o4 rfl (.nil _)) (Kj105 () false h)
theorem search_finder_possible.con (k : Nat) (a0 : Finder) (r : Bool) (h : search_finder_possible k a0 = some r) : Con Tryz.prog 208 [] [PtrA [SlcA kInt a0.fp.fNodes, SlcA kEdge a0.fp.fEdges, SlcA kInt a0.fg.fNodes, SlcA kEdge a0.fg.fEdges, SlcA (kSl kBool) a0.fis, OptA kInt a0.fpartial.fNodes, OptA kInt a0.fpartial.fEdges, bA a0.finjective, iA a0.fmost, SlcA kInt a0.fnodes, SlcA kInt a0.fedges, SlcA kMorphism a0.fout]] (RA (bA r)) := by
 unfold search_finder_possible at h
 refine Con.of (N := 49) Tryz.func208 rfl rfl rfl fun w0_ fg_ => sr <| ak rfl <| nx <| mv rfl rfl <| p1 rfl 8 rfl (q_nilCheck rfl) <| fd rfl rfl fo238_6 rfl <| ld rfl rfl sh26 <| p1 rfl 11 rfl (q_len rfl elS26) ?_
 obtain ⟨c100, h⟩ := ite_n h
 refine pk rfl 12 rfl (q_subR rfl c100) <| av rfl rfl <| WL.nil <| QN.weaken (env' := [(3, _), (0, _)]) (.o2 rfl (.nil _)) <| QN.then_ <| W.seq <| sr <| mv rfl rfl <| p1 rfl 14 rfl (q_nilCheck rfl) <| fd rfl rfl fo238_0 rfl <| fd rfl rfl fo38_1 rfl <| ld rfl rfl sh36 ?_
 refine p1 rfl 18 rfl (q_len rfl elS36) <| mk_ rfl <| nt <| W.block ?_
 refine W.loop1 (Γ := Unit) (fun (_ : Unit) (x20 : Int) => [(0, PtrA [SlcA kInt a0.fp.fNodes, SlcA kEdge a0.fp.fEdges, SlcA kInt a0.fg.fNodes, SlcA kEdge a0.fg.fEdges, SlcA (kSl kBool) a0.fis, OptA kInt a0.fpartial.fNodes, OptA kInt a0.fpartial.fEdges, bA a0.finjective, iA a0.fmost, SlcA kInt a0.fnodes, SlcA kInt a0.fedges, SlcA kMorphism a0.fout]), (3, iA ((a0.fnodes.length : Int) - 1)), (18, SlcA kEdge a0.fp.fEdges), (19, iA (a0.fp.fEdges.length : Int)), (20, iA x20)]) (fun (_ : Unit) (_ : Int) => []) h () (.o4 rfl (.one rfl (.nil _))) rfl (fun rec0 K0 next0 _ x20 h => ?_)
 unfold search_finder_possible.b0 at h
 refine sr <| p2 rfl 20 rfl 19 rfl (q_int rfl rfl) <| nt <| W.seq ?_
 refine W.condP h rfl (fun hb219 h => ?_) (fun hb219 h => ?_)
 ·refine W.skip <| QN.then_ <| W.seq <| W.block <| sr <| mv rfl rfl ?_
  obtain ⟨c247, h⟩ := ite_n h
  refine p2 rfl 18 rfl 20 rfl (q_index rfl el36 rfl c247.1 c247.2) <| lS rfl rfl sh109 rfl rfl <| WL.w [] rfl (Wanted.plain rfl) rfl rfl .nil (w_alloc rfl z109 (l := [iA 0, iA 0, iA 0]) rfl) ?_
  rintro _ _ ⟨b248, rfl, rfl⟩
  refine av rfl rfl <| WL.w0 [0] rfl (Wanted.plain rfl) rfl (.s 5 rfl (.s 24 rfl .nil)) (w_store (L := [iA ((rd a0.fp.fEdges x20).fType), iA ((rd a0.fp.fEdges x20).fFrom), iA ((rd a0.fp.fEdges x20).fTo)]) rfl sh109 (CellsOf.agg _) rfl rfl (leB rfl) rfl) ?_
  rintro _ _ ⟨rfl, rfl⟩
  refine WL.nil <| QN.to (StTo.still [0] 5 rfl rfl) <| QN.then_ <| W.seq <| sr <| fd rfl rfl fo109_1 rfl <| ld rfl rfl sh3 <| fd rfl rfl fo109_2 rfl <| ld rfl rfl sh3 <| p2 rfl 26 rfl 28 rfl (q_max rfl) <| mv rfl rfl <| p2 rfl 29 rfl 30 rfl (q_int rfl rfl) ?_
  refine WL.nil <| QN.weaken (env' := [(31, _), (4, _), (20, _), (19, _), (18, _), (3, _), (0, _)]) (.o4 rfl (.o2 rfl (.one rfl (.nil _)))) <| QN.then_ ?_
  refine W.condP h rfl (fun hb249 h => ?_) (fun hb249 h => ?_)
  ·refine W.exit <| QX.then_ <| QX.here <| QN.then_ <| W.region ?_
   obtain ⟨c250, h⟩ := ite_n h
   refine pk rfl 20 rfl (q_addR rfl c250) <| mv rfl rfl <| WL.nil ?_
   exact next0 () (x20 + 1) _ h (.o4 rfl (.one rfl (.nil _)))
  ·refine W.skip <| QN.then_ <| sr <| ak rfl <| nt <| W.seq <| sr <| mv rfl rfl <| p1 rfl 32 rfl (q_nilCheck rfl) <| fd rfl rfl fo238_1 rfl ?_
   refine fd rfl rfl fo38_1 rfl <| ld rfl rfl sh36 <| p1 rfl 36 rfl (q_len rfl elS36) <| mk_ rfl <| nt <| W.block ?_
   refine W.loop1 (Γ := Unit) (fun (_ : Unit) (x38 : Int) => [(0, PtrA [SlcA kInt a0.fp.fNodes, SlcA kEdge a0.fp.fEdges, SlcA kInt a0.fg.fNodes, SlcA kEdge a0.fg.fEdges, SlcA (kSl kBool) a0.fis, OptA kInt a0.fpartial.fNodes, OptA kInt a0.fpartial.fEdges, bA a0.finjective, iA a0.fmost, SlcA kInt a0.fnodes, SlcA kInt a0.fedges, SlcA kMorphism a0.fout]), (3, iA ((a0.fnodes.length : Int) - 1)), (18, SlcA kEdge a0.fp.fEdges), (19, iA (a0.fp.fEdges.length : Int)), (20, iA x20), (4, iA x20), (6, bA false), (37, iA (a0.fg.fEdges.length : Int)), (38, iA x38)]) (fun (_ : Unit) (_ : Int) => []) h () (.o4 rfl (.o4 rfl (.one rfl (.nil _)))) rfl (fun rec1 K1 next1 _ x38 h => ?_)
   unfold search_finder_possible.b1 at h
   refine sr <| p2 rfl 38 rfl 37 rfl (q_int rfl rfl) <| nt <| W.seq ?_
   refine W.condP h rfl (fun hb273 h => ?_) (fun hb273 h => ?_)
   ·refine W.skip <| QN.then_ <| W.seq <| W.block <| sr <| mv rfl rfl <| av rfl rfl <| nx <| mv rfl rfl ?_
    refine mv rfl rfl <| mv rfl rfl ?_
    obtain ⟨t274, ht274, h⟩ := bind_s h
    refine WL.p rfl rfl rfl (.s 41 rfl (.s 42 rfl (.s 43 rfl .nil))) (q_call (f := 209) (A := bA t274) (xs := [.tmp 41, .tmp 42, .tmp 43]) («as» := [PtrA [SlcA kInt a0.fp.fNodes, SlcA kEdge a0.fp.fEdges, SlcA kInt a0.fg.fNodes, SlcA kEdge a0.fg.fEdges, SlcA (kSl kBool) a0.fis, OptA kInt a0.fpartial.fNodes, OptA kInt a0.fpartial.fEdges, bA a0.finjective, iA a0.fmost, SlcA kInt a0.fnodes, SlcA kInt a0.fedges, SlcA kMorphism a0.fout], iA x20, iA x38]) rfl ca209 (search_finder_fits.con k a0 x20 x38 t274 ht274) rfl) <| nt ?_
    refine W.condP h rfl (fun hb275 h => ?_) (fun hb275 h => ?_)
    ·refine sr <| ak rfl <| WL.nil <| QN.weaken (env' := [(6, _), (20, _), (19, _), (18, _), (3, _), (0, _)]) (.o4 rfl (.o2 rfl (.nil _))) <| QN.then_ <| W.exit <| QX.there rfl <| QX.then_ <| QX.then_ <| QX.here <| QN.then_ <| W.seq ?_
     refine W.region <| mv rfl rfl <| p1 rfl 46 rfl (q_not rfl) <| nt <| W.condF rfl rfl <| W.skip <| QN.block <| QN.then_ <| W.region ?_
     obtain ⟨c276, h⟩ := ite_n h
     refine pk rfl 20 rfl (q_addR rfl c276) <| mv rfl rfl <| WL.nil ?_
     exact next0 () (x20 + 1) _ h (.o4 rfl (.one rfl (.nil _)))
    ·refine W.skip <| QN.block <| QN.weaken (env' := [(38, _), (37, _), (6, _), (4, _), (20, _), (19, _), (18, _), (3, _), (0, _)]) (.o4 rfl (.o4 rfl (.one rfl (.nil _)))) <| QN.then_ <| W.region ?_
     obtain ⟨c277, h⟩ := ite_n h
     refine pk rfl 38 rfl (q_addR rfl c277) <| mv rfl rfl <| WL.nil ?_
     exact next1 () (x38 + 1) _ h (.o4 rfl (.o4 rfl (.one rfl (.nil _))))
   ·refine W.exit <| QX.then_ <| QX.then_ <| QX.here <| QN.then_ <| sr <| mv rfl rfl <| p1 rfl 46 rfl (q_not rfl) <| nt <| W.condT rfl rfl <| W.seq ?_
    refine W.region <| ak rfl <| WL.nil <| QN.weaken (env' := [(2, _)]) (.one rfl (.nil _)) <| QN.then_ <| W.ret <| QR.block <| QR.then_ <| QR.then_ <| QR.block <| QR.then_ ?_
    cases h
    exact QR.f1 rfl rfl (.t rfl) (.id _)
 ·refine W.exit <| QX.then_ <| QX.then_ <| QX.here <| QN.then_ <| sr <| ak rfl <| nt <| W.ret ?_
  cases h
  exact QR.f1 rfl rfl (.t rfl) (.id _)
theorem slices_Clone_int.conN (k : Nat) (a0 : (List Int)) (r : (List Int)) (h : slices_Clone_int k a0 = some r) : Con Tryz.prog 11 [] [SlcA kInt a0] (RApp 3 kInt r) := by
  unfold slices_Clone_int at h
  obtain ⟨hl, h⟩ := ite_n h
  cases h
  refine Con.of (N := 8) Tryz.func11 rfl rfl rfl fun w0_ fg_ => ?_
  refine W.seq (W.region (ak rfl (WL.nil (QN.then_ ?_))))
  refine W.seq (W.seq (W.region (mv rfl rfl (p1 rfl 3 rfl (q_nilAny (kd := kInt) (xs := a0) rfl elS26) (WL.nil (QN.then_ ?_))))))
  refine W.condAny rfl (fun hp => ?_) (fun _ => ?_)
  · have hn := hp rfl
    subst hn
    refine W.seq (W.region (ak rfl (WL.nil (QN.then_ ?_))))
    refine W.ret (QR.then_ ?_)
    refine QR.to (StTo.newNil 3 kInt) ?_
    refine QR.to (StTo.as 2 rfl Imp.nilHd) ?_
    exact QR.tmp rfl rfl ⟨_, rfl, rfl⟩
  · refine W.skip (QN.then_ ?_)
    refine W.seq (W.region ?_)
    refine WL.p rfl rfl rfl .nil (q_lit0 rfl el26 gr3) ?_
    refine mv rfl rfl ?_
    refine WL.w [] rfl (Wanted.plain rfl) rfl rfl (.s 5 rfl (.s 6 rfl .nil)) (w_appendZ (kd := kInt) rfl el26 rfl gr3 hl) ?_
    rintro _ _ ⟨v, rfl, rfl⟩
    refine av rfl rfl ?_
    refine WL.nil (QN.then_ ?_)
    refine W.ret ?_
    exact QR.tmp rfl rfl ⟨_, rfl, rfl⟩
theorem slices_Clone_int.con (k : Nat) (a0 : (List Int)) (r : (List Int)) (h : slices_Clone_int k a0 = some r) : Con Tryz.prog 11 [] [SlcA kInt a0] (RA (SlcA kInt r)) := Con.free (slices_Clone_int.conN k a0 r h)
theorem search_finder_find.con : ∀ (k : Nat) (b : Nat) (w0 : Value) (w1 : Value) (w2 : Value) (a0 : Finder) (r : ((List Int) × (List Int) × (List Morphism))) (_ : search_finder_find k a0 = some r), Con Tryz.prog 191 [BoxE b [SlcA kInt a0.fp.fNodes, SlcA kEdge a0.fp.fEdges, SlcA kInt a0.fg.fNodes, SlcA kEdge a0.fg.fEdges, SlcA (kSl kBool) a0.fis, OptA kInt a0.fpartial.fNodes, OptA kInt a0.fpartial.fEdges, bA a0.finjective, iA a0.fmost, HdA w0, HdA w1, HdA w2], SlE 3 w0 kInt a0.fnodes, SlE 3 w1 kInt a0.fedges, SlE 64 w2 kMorphism a0.fout] [EqA (.pointer (some ⟨b, 0, none⟩))] (fun O' A => ∃ u0 u1 u2, O' = [BoxE b [SlcA kInt a0.fp.fNodes, SlcA kEdge a0.fp.fEdges, SlcA kInt a0.fg.fNodes, SlcA kEdge a0.fg.fEdges, SlcA (kSl kBool) a0.fis, OptA kInt a0.fpartial.fNodes, OptA kInt a0.fpartial.fEdges, bA a0.finjective, iA a0.fmost, HdA u0, HdA u1, HdA u2], SlE 3 u0 kInt r.1, SlE 3 u1 kInt r.2.1, SlE 64 u2 kMorphism r.2.2] ∧ A = TupA []) := by
 intro k
 induction k with
 | zero => intro b w0 w1 w2 a0 r h; cases h
 | succ k ih =>
  intro b w0 w1 w2 a0 r h
  change search_finder_find.main (search_finder_find k) k a0 = some r at h
  unfold search_finder_find.main at h
  refine Con.of (N := 208) Tryz.func191 rfl rfl rfl fun w0_ fg_ => W.block <| W.seq <| W.drawK [(0, false), (1, false), (2, false), (3, true), (4, true), (5, false), (6, false), (7, false), (8, true), (9, false), (10, false)] [] (bm [0, 1, 3, 7, 15, 0, 32, 96, 224, 511, 1023]) mx (by kernel_rfl) <| dm rfl rfl rfl <| DK.cons rfl rfl (.p rfl (.s 29 rfl .nil) rfl (q_nilCheckP rfl)) <| DK.cons rfl rfl (.p rfl (.s 30 rfl .nil) rfl (q_fieldP rfl fo238_8)) <| DK.cons rfl rfl (.o rfl (.s 31 rfl .nil) rfl (q_loadB rfl sh133 (i := 0) rfl rfl)) <| DK.cons rfl rfl (.o rfl (.s 32 rfl .nil) rfl (q_lenO rfl elS133 (i := 3) rfl)) <| dm rfl rfl rfl <| DK.cons rfl rfl (.p rfl (.s 34 rfl .nil) rfl (q_nilCheckP rfl)) <| DK.cons rfl rfl (.p rfl (.s 35 rfl .nil) rfl (q_fieldP rfl fo238_5)) <| DK.cons rfl rfl (.o rfl (.s 36 rfl .nil) rfl (q_loadB rfl sh3 (i := 0) rfl rfl)) ?_
  refine DK.cons rfl rfl (.p rfl (.s 33 rfl (.s 37 rfl .nil)) rfl (q_int rfl rfl)) <| DK.cons rfl rfl (.p rfl (.s 38 rfl .nil) rfl (q_assign rfl)) <| DK.nil <| CSteps.nil <| QN.weaken (env' := [(28, _), (0, _)]) (.o2 rfl (.nil _)) <| QN.then_ ?_
  refine W.condP h rfl (fun hb1585 h => ?_) (fun hb1585 h => ?_)
  ·refine W.skip <| QN.block ?_
   cases h
   exact QN.f0 rfl rfl ⟨w0, w1, w2, rfl, rfl⟩
  ·refine W.seq <| W.drawK [(0, false), (1, false), (2, false), (3, true), (4, true), (5, false), (6, false), (7, false), (8, false), (9, true), (10, false), (11, false), (12, false)] [] (bm [0, 1, 3, 7, 15, 0, 32, 96, 224, 480, 992, 2047, 4095]) mx (by kernel_rfl) <| dm rfl rfl rfl <| DK.cons rfl rfl (.p rfl (.s 40 rfl .nil) rfl (q_nilCheckP rfl)) <| DK.cons rfl rfl (.p rfl (.s 41 rfl .nil) rfl (q_fieldP rfl fo238_6)) <| DK.cons rfl rfl (.o rfl (.s 42 rfl .nil) rfl (q_loadB rfl sh26 (i := 0) rfl rfl)) <| DK.cons rfl rfl (.o rfl (.s 43 rfl .nil) rfl (q_lenO rfl elS26 (i := 1) rfl)) <| dm rfl rfl rfl <| DK.cons rfl rfl (.p rfl (.s 45 rfl .nil) rfl (q_nilCheckP rfl)) <| DK.cons rfl rfl (.p rfl (.s 46 rfl .nil) rfl (q_fieldP rfl fo238_0)) <| DK.cons rfl rfl (.p rfl (.s 47 rfl .nil) rfl (q_fieldP rfl fo38_0)) <| DK.cons rfl rfl (.o rfl (.s 48 rfl .nil) rfl (q_loadB rfl sh26 (i := 0) rfl rfl)) <| DK.cons rfl rfl (.p rfl (.s 49 rfl .nil) rfl (q_len rfl elS26)) ?_
   refine DK.cons rfl rfl (.p rfl (.s 44 rfl (.s 50 rfl .nil)) rfl (q_int rfl rfl)) <| DK.cons rfl rfl (.p rfl (.s 51 rfl .nil) rfl (q_assign rfl)) <| DK.nil <| CSteps.nil <| QN.weaken (env' := [(39, _), (0, _)]) (.o2 rfl (.nil _)) <| QN.then_ ?_
   refine W.jn3 (Γ := (Value × Value × Value)) (fun (_ : (Value × Value × Value)) (_ : (List Int)) (_ : (List Int)) (_ : (List Morphism)) => [(0, EqA (.pointer (some ⟨b, 0, none⟩)))]) (fun (g2324 : (Value × Value × Value)) (y9 : (List Int)) (y10 : (List Int)) (y11 : (List Morphism)) => [BoxE b [SlcA kInt a0.fp.fNodes, SlcA kEdge a0.fp.fEdges, SlcA kInt a0.fg.fNodes, SlcA kEdge a0.fg.fEdges, SlcA (kSl kBool) a0.fis, OptA kInt a0.fpartial.fNodes, OptA kInt a0.fpartial.fEdges, bA a0.finjective, iA a0.fmost, HdA g2324.1, HdA g2324.2.1, HdA g2324.2.2], SlE 3 g2324.1 kInt y9, SlE 3 g2324.2.1 kInt y10, SlE 64 g2324.2.2 kMorphism y11]) h (fun g2324 y9 y10 y11 h => ?_) (fun j2331 Kj2331 h => ?_)
   ·refine QN.block ?_
    cases h
    exact QN.f0 rfl rfl ⟨g2324.1, g2324.2.1, g2324.2.2, rfl, rfl⟩
   ·refine W.condP h rfl (fun hb2332 h => ?_) (fun hb2332 h => ?_)
    ·refine sr <| mv rfl rfl <| p1 rfl 52 rfl (q_nilCheckP rfl) <| p1 rfl 53 rfl (q_fieldP rfl fo238_6) <| WL.q (Wanted.plain rfl) rfl rfl (.s 54 rfl .nil) (q_loadB rfl sh26 (i := 0) rfl rfl) <| WL.q (Wanted.plain rfl) rfl rfl (.s 55 rfl .nil) (q_lenO rfl elS26 (i := 1) rfl) <| av rfl rfl <| nx <| mv rfl rfl ?_
     refine p1 rfl 57 rfl (q_nilCheckP rfl) <| p1 rfl 58 rfl (q_fieldP rfl fo238_1) <| p1 rfl 59 rfl (q_fieldP rfl fo38_0) <| WL.q (Wanted.plain rfl) rfl rfl (.s 60 rfl .nil) (q_loadB rfl sh26 (i := 0) rfl rfl) <| p1 rfl 61 rfl (q_len rfl elS26) <| mk_ rfl <| WL.nil <| QN.weaken (env' := [(63, _), (62, _), (61, _), (2, _), (0, _)]) (.o4 rfl (.one rfl (.nil _))) <| QN.then_ <| W.block ?_
     refine W.loop4 (Γ := (Value × Value × Value)) (fun (_ : (Value × Value × Value)) (_ : (List Int)) (_ : (List Int)) (_ : (List Morphism)) (x63 : Int) => [(0, EqA (.pointer (some ⟨b, 0, none⟩))), (2, iA (a0.fnodes.length : Int)), (61, SlcA kInt a0.fg.fNodes), (62, iA (a0.fg.fNodes.length : Int)), (63, iA x63)]) (fun (g0 : (Value × Value × Value)) (y9 : (List Int)) (y10 : (List Int)) (y11 : (List Morphism)) (_ : Int) => [BoxE b [SlcA kInt a0.fp.fNodes, SlcA kEdge a0.fp.fEdges, SlcA kInt a0.fg.fNodes, SlcA kEdge a0.fg.fEdges, SlcA (kSl kBool) a0.fis, OptA kInt a0.fpartial.fNodes, OptA kInt a0.fpartial.fEdges, bA a0.finjective, iA a0.fmost, HdA g0.1, HdA g0.2.1, HdA g0.2.2], SlE 3 g0.1 kInt y9, SlE 3 g0.2.1 kInt y10, SlE 64 g0.2.2 kMorphism y11]) h (w0, w1, w2) (.o4 rfl (.one rfl (.nil _))) rfl (fun rec0 K0 next0 g0 y9 y10 y11 x63 h => ?_)
     unfold search_finder_find.b0 at h
     refine sr <| p2 rfl 63 rfl 62 rfl (q_int rfl rfl) <| nt <| W.seq ?_
     refine W.condP h rfl (fun hb2631 h => ?_) (fun hb2631 h => ?_)
     ·refine W.skip <| QN.then_ <| W.seq <| W.block <| sr <| mv rfl rfl ?_
      obtain ⟨c2702, h⟩ := ite_n h
      refine p2 rfl 61 rfl 63 rfl (q_index rfl el26 rfl c2702.1 c2702.2) <| ld rfl rfl sh3 <| av rfl rfl <| av rfl rfl <| nt <| W.seq <| sr <| mv rfl rfl <| p1 rfl 68 rfl (q_nilCheckP rfl) <| p1 rfl 69 rfl (q_fieldP rfl fo238_3) <| p1 rfl 70 rfl (q_fieldP rfl fo64_0) ?_
      refine WL.q (Wanted.plain rfl) rfl rfl (.s 71 rfl .nil) (q_loadB rfl sh26 (i := 0) rfl rfl) <| mv rfl rfl ?_
      obtain ⟨t2703, ht2703, h⟩ := bind_s h
      refine p2 rfl 72 rfl 73 rfl (q_call (f := 207) (A := iA t2703) (xs := [.tmp 72, .tmp 73]) («as» := [OptA kInt a0.fpartial.fNodes, iA (a0.fnodes.length : Int)]) rfl ca207 (search_given.con k a0.fpartial.fNodes (a0.fnodes.length : Int) t2703 ht2703) rfl) <| av rfl rfl <| WL.nil <| QN.weaken (env' := [(5, _), (4, _), (3, _), (63, _), (62, _), (61, _), (2, _), (0, _)]) (.o4 rfl (.o4 rfl (.nil _))) <| QN.then_ <| W.seq ?_
      refine W.jn1 (Γ := Unit) (fun (_ : Unit) (x115 : Bool) => [(0, EqA (.pointer (some ⟨b, 0, none⟩))), (2, iA (a0.fnodes.length : Int)), (61, SlcA kInt a0.fg.fNodes), (62, iA (a0.fg.fNodes.length : Int)), (63, iA x63), (3, iA x63), (115, bA x115)]) (fun (_ : Unit) (_ : Bool) => [BoxE b [SlcA kInt a0.fp.fNodes, SlcA kEdge a0.fp.fEdges, SlcA kInt a0.fg.fNodes, SlcA kEdge a0.fg.fEdges, SlcA (kSl kBool) a0.fis, OptA kInt a0.fpartial.fNodes, OptA kInt a0.fpartial.fEdges, bA a0.finjective, iA a0.fmost, HdA g0.1, HdA g0.2.1, HdA g0.2.2], SlE 3 g0.1 kInt y9, SlE 3 g0.2.1 kInt y10, SlE 64 g0.2.2 kMorphism y11]) h (fun _ x115 h => ?_) (fun j2733 Kj2733 h => ?_)
      ·refine QN.then_ ?_
       refine W.condP h rfl (fun hb2734 h => ?_) (fun hb2734 h => ?_)
       ·refine W.exit <| QX.then_ <| QX.here <| QN.then_ <| W.region ?_
        obtain ⟨c2735, h⟩ := ite_n h
        refine pk rfl 63 rfl (q_addR rfl c2735) <| mv rfl rfl <| WL.nil ?_
        exact next0 (g0.1, g0.2.1, g0.2.2) y9 y10 y11 (x63 + 1) _ h (.o4 rfl (.one rfl (.nil _)))
       ·refine W.skip <| QN.then_ <| sr <| mv rfl rfl <| mv rfl rfl <| p1 rfl 117 rfl (q_nilCheckP rfl) <| p1 rfl 118 rfl (q_fieldP rfl fo238_6) <| WL.q (Wanted.plain rfl) rfl rfl (.s 119 rfl .nil) (q_loadB rfl sh26 (i := 0) rfl rfl) <| mv rfl rfl <| p1 rfl 121 rfl (q_lit (kd := kInt) (ps := [(0, .tmp 121)]) (xs := [.tmp 121]) («as» := [iA x63]) (ys := [x63]) rfl rfl el26 rfl gr3 rfl rfl rfl (.cons (CellsOf.one rfl) .nil)) ?_
        obtain ⟨c2736, h⟩ := ite_n h
        refine WL.w [1] rfl (Wanted.plain rfl) rfl rfl (.s 120 rfl (.s 122 rfl .nil)) (w_append (kd := kInt) rfl el26 rfl gr3 c2736) ?_
        rintro _ _ ⟨v2737, rfl, rfl⟩
        refine p1 rfl 116 rfl (q_nilCheckP rfl) <| p1 rfl 124 rfl (q_fieldP rfl fo238_6) <| WL.w0 [1] rfl (Wanted.plain rfl) rfl (.s 125 rfl (.s 123 rfl .nil)) (w_store (L := [SlcA kInt a0.fp.fNodes, SlcA kEdge a0.fp.fEdges, SlcA kInt a0.fg.fNodes, SlcA kEdge a0.fg.fEdges, SlcA (kSl kBool) a0.fis, OptA kInt a0.fpartial.fNodes, OptA kInt a0.fpartial.fEdges, bA a0.finjective, iA a0.fmost, HdA v2737, HdA g0.2.1, HdA g0.2.2]) rfl sh26 (CellsOf.one rfl) rfl rfl (leB rfl) rfl) ?_
        rintro _ _ ⟨rfl, rfl⟩
        refine WL.nil <| QN.weaken (env' := [(63, _), (62, _), (61, _), (2, _), (0, _)]) (.o4 rfl (.one rfl (.nil _))) <| QN.then_ <| W.seq <| sr <| mv rfl rfl ?_
        obtain ⟨t2738, ht2738, h⟩ := bind_s h
        refine WL.q (Wanted.plain rfl) rfl rfl (.s 126 rfl .nil) (q_lend (f := 208) (A := bA t2738) (xs := [.tmp 126]) («as» := [EqA (.pointer (some ⟨b, 0, none⟩))]) rfl ca208 (search_finder_possible.con k (Finder.mk a0.fp a0.fg a0.fis a0.fpartial a0.finjective a0.fmost (y9 ++ [x63]) y10 y11) t2738 ht2738) rfl (.cons (.box 0 rfl (.cons (.id _) (.cons (.id _) (.cons (.id _) (.cons (.id _) (.cons (.id _) (.cons (.id _) (.cons (.id _) (.cons (.id _) (.cons (.id _) (.cons (.slc 1 rfl) (.cons (.slc 2 rfl) (.cons (.slc 3 rfl) .nil))))))))))))) .nil) (Flat.eq _)) <| nt ?_
        refine W.jn3 (Γ := (Value × Value × Value)) (fun (_ : (Value × Value × Value)) (_ : (List Int)) (_ : (List Int)) (_ : (List Morphism)) => [(0, EqA (.pointer (some ⟨b, 0, none⟩))), (2, iA (a0.fnodes.length : Int)), (61, SlcA kInt a0.fg.fNodes), (62, iA (a0.fg.fNodes.length : Int)), (63, iA x63)]) (fun (g2744 : (Value × Value × Value)) (y9' : (List Int)) (y10' : (List Int)) (y11' : (List Morphism)) => [BoxE b [SlcA kInt a0.fp.fNodes, SlcA kEdge a0.fp.fEdges, SlcA kInt a0.fg.fNodes, SlcA kEdge a0.fg.fEdges, SlcA (kSl kBool) a0.fis, OptA kInt a0.fpartial.fNodes, OptA kInt a0.fpartial.fEdges, bA a0.finjective, iA a0.fmost, HdA g2744.1, HdA g2744.2.1, HdA g2744.2.2], SlE 3 g2744.1 kInt y9', SlE 3 g2744.2.1 kInt y10', SlE 64 g2744.2.2 kMorphism y11']) h (fun g2744 y9' y10' y11' h => ?_) (fun j2751 Kj2751 h => ?_)
        ·refine QN.then_ <| W.region <| mv rfl rfl <| mv rfl rfl <| p1 rfl 131 rfl (q_nilCheckP rfl) <| p1 rfl 132 rfl (q_fieldP rfl fo238_6) <| WL.q (Wanted.plain rfl) rfl rfl (.s 133 rfl .nil) (q_loadB rfl sh26 (i := 0) rfl rfl) <| mv rfl rfl ?_
         obtain ⟨c2752, h⟩ := ite_n h
         refine WL.w [1] rfl (Wanted.plain rfl) rfl rfl (.s 134 rfl (.s 135 rfl .nil)) (w_sub rfl el26 rfl c2752.1 c2752.2) ?_
         rintro _ _ ⟨v2753, rfl, rfl⟩
         refine p1 rfl 130 rfl (q_nilCheckP rfl) <| p1 rfl 137 rfl (q_fieldP rfl fo238_6) <| WL.w0 [1] rfl (Wanted.plain rfl) rfl (.s 138 rfl (.s 136 rfl .nil)) (w_store (L := [SlcA kInt a0.fp.fNodes, SlcA kEdge a0.fp.fEdges, SlcA kInt a0.fg.fNodes, SlcA kEdge a0.fg.fEdges, SlcA (kSl kBool) a0.fis, OptA kInt a0.fpartial.fNodes, OptA kInt a0.fpartial.fEdges, bA a0.finjective, iA a0.fmost, HdA v2753, HdA g2744.2.1, HdA g2744.2.2]) rfl sh26 (CellsOf.one rfl) rfl rfl (leB rfl) rfl) ?_
         rintro _ _ ⟨rfl, rfl⟩
         refine WL.nil <| QN.block <| QN.weaken (env' := [(63, _), (62, _), (61, _), (2, _), (0, _)]) (.o4 rfl (.one rfl (.nil _))) <| QN.then_ <| W.region ?_
         obtain ⟨c2754, h⟩ := ite_n h
         refine pk rfl 63 rfl (q_addR rfl c2754) <| mv rfl rfl <| WL.nil ?_
         exact next0 (v2753, g2744.2.1, g2744.2.2) (y9'.take ((a0.fnodes.length : Int) : Int).toNat) y10' y11' (x63 + 1) _ h (.o4 rfl (.one rfl (.nil _)))
        ·refine W.condP h rfl (fun hb2755 h => ?_) (fun hb2755 h => ?_)
         ·refine W.region <| mv rfl rfl ?_
          obtain ⟨t2756, ht2756, h⟩ := bind_s h
          refine WL.w [0, 0, 0, 0] rfl (Wanted.plain rfl) rfl rfl (.s 128 rfl .nil) (w_callI (f := 191) (xs := [.tmp 128]) («as» := [EqA (.pointer (some ⟨b, 0, none⟩))]) rfl ca191 (ih b v2737 g0.2.1 g0.2.2 (Finder.mk a0.fp a0.fg a0.fis a0.fpartial a0.finjective a0.fmost (y9 ++ [x63]) y10 y11) t2756 ht2756) rfl (.cons (Imp.id _) .nil)) ?_
          rintro _ _ ⟨v2757, v2758, v2759, rfl, rfl⟩
          refine WL.nil ?_
          exact QN.weaken (.o4 rfl (.one rfl (.nil _))) (Kj2751 (v2757, v2758, v2759) t2756.1 t2756.2.1 t2756.2.2 h)
         ·refine W.skip ?_
          exact QN.weaken (.o4 rfl (.one rfl (.nil _))) (Kj2751 (v2737, g0.2.1, g0.2.2) (y9 ++ [x63]) y10 y11 h)
      ·refine W.drawK [(0, false), (1, false), (2, false), (3, false), (4, false), (5, false), (6, false), (7, false), (8, false), (9, false), (10, false), (11, true), (12, false), (13, false), (14, false), (15, false), (16, true), (17, false), (18, false), (19, false), (20, false), (21, false), (22, false), (23, false), (24, false), (25, false), (26, false), (27, false), (28, false), (29, false), (30, false), (31, true), (32, false), (33, false), (34, false), (35, false), (36, true), (37, false), (38, true), (39, false), (40, false)] [] (bm [0, 1, 3, 7, 7, 31, 63, 127, 255, 511, 1023, 2047, 255, 4351, 12543, 28927, 61695, 255, 258303, 520447, 1048575, 2097151, 255, 8388607, 16777215, 33554431, 67108863, 134217727, 268435455, 536870911, 1073741823, 2147483647, 4294967295, 8589934591, 17179869183, 34359738367, 68719476735, 8589934591, 274877906943, 549755813887, 1099511627775]) mx (by kernel_rfl) <| dm rfl rfl rfl <| DK.cons rfl rfl (.p rfl (.s 75 rfl (.k .nil)) rfl (q_int rfl rfl)) <| dm rfl rfl rfl ?_
       rcases bif_s h with ⟨hb2760, h⟩ | ⟨hb2760, h⟩
       ·refine DK.cons rfl rfl (.gp rfl rfl rfl hb2760 (.s 5 rfl .nil) rfl (q_move rfl)) <| DK.cons rfl rfl (.gp rfl rfl rfl hb2760 (.s 3 rfl .nil) rfl (q_move rfl)) <| DK.cons rfl rfl (.gp rfl rfl rfl hb2760 (.s 78 rfl (.s 79 rfl .nil)) rfl (q_int rfl rfl)) <| DK.cons rfl rfl (.p rfl (.s 77 rfl (.s 80 rfl .nil)) rfl (q_pickT rfl hb2760)) <| dm rfl rfl rfl ?_
        rcases bif_s h with ⟨hb2761, h⟩ | ⟨hb2761, h⟩
        ·refine dx rfl rfl rfl hb2761 <| dx rfl rfl rfl hb2761 <| dx rfl rfl rfl hb2761 <| dx rfl rfl rfl hb2761 <| dx rfl rfl rfl hb2761 <| dx rfl rfl rfl hb2761 <| dx rfl rfl rfl hb2761 <| dx rfl rfl rfl hb2761 <| dx rfl rfl rfl hb2761 <| dx rfl rfl rfl hb2761 <| dx rfl rfl rfl hb2761 <| dx rfl rfl rfl hb2761 <| dx rfl rfl rfl hb2761 ?_
         refine dx rfl rfl rfl hb2761 <| dx rfl rfl rfl hb2761 <| dx rfl rfl rfl hb2761 <| dx rfl rfl rfl hb2761 <| dx rfl rfl rfl hb2761 <| DK.cons rfl rfl (.p rfl (.s 82 rfl (.k .nil)) rfl (q_pickT rfl hb2761)) <| dm rfl rfl rfl <| dx rfl rfl rfl rfl <| dx rfl rfl rfl rfl <| dx rfl rfl rfl rfl <| dx rfl rfl rfl rfl <| dx rfl rfl rfl rfl <| DK.cons rfl rfl (.und rfl rfl rfl) ?_
         refine DK.cons rfl rfl (.und rfl rfl rfl) <| DK.cons rfl rfl (.und rfl rfl rfl) <| DK.cons rfl rfl (.und rfl rfl rfl) <| DK.cons rfl rfl (.und rfl rfl rfl) <| DK.cons rfl rfl (.und rfl rfl rfl) <| dx rfl rfl rfl rfl <| DK.cons rfl rfl (.p rfl (.s 102 rfl (.k .nil)) rfl (q_pickT rfl rfl)) <| DK.nil <| CSteps.nil ?_
         exact QN.weaken (.o4 rfl (.o2 rfl (.one rfl (.nil _)))) (Kj2733 () true h)
        ·refine DK.cons rfl rfl (.gp rfl rfl rfl hb2761 (.s 0 rfl .nil) rfl (q_move rfl)) <| DK.cons rfl rfl (.gp rfl rfl rfl hb2761 (.s 83 rfl .nil) rfl (q_nilCheckP rfl)) <| DK.cons rfl rfl (.gp rfl rfl rfl hb2761 (.s 84 rfl .nil) rfl (q_fieldP rfl fo238_2)) <| DK.cons rfl rfl (.go rfl rfl rfl hb2761 (.s 85 rfl .nil) rfl (q_loadB rfl sh200 (i := 0) rfl rfl)) <| DK.cons rfl rfl (.gp rfl rfl rfl hb2761 (.s 0 rfl .nil) rfl (q_move rfl)) <| DK.cons rfl rfl (.gp rfl rfl rfl hb2761 (.s 87 rfl .nil) rfl (q_nilCheckP rfl)) <| DK.cons rfl rfl (.gp rfl rfl rfl hb2761 (.s 88 rfl .nil) rfl (q_fieldP rfl fo238_0)) <| DK.cons rfl rfl (.gp rfl rfl rfl hb2761 (.s 89 rfl .nil) rfl (q_fieldP rfl fo38_0)) <| DK.cons rfl rfl (.go rfl rfl rfl hb2761 (.s 90 rfl .nil) rfl (q_loadB rfl sh26 (i := 0) rfl rfl)) <| DK.cons rfl rfl (.gp rfl rfl rfl hb2761 (.s 2 rfl .nil) rfl (q_move rfl)) ?_
         obtain ⟨c2762, h⟩ := ite_n h
         refine DK.cons rfl rfl (.gp rfl rfl rfl hb2761 (.s 91 rfl (.s 92 rfl .nil)) rfl (q_index rfl el26 rfl c2762.1 c2762.2)) <| DK.cons rfl rfl (.gp rfl rfl rfl hb2761 (.s 93 rfl .nil) rfl (q_load rfl sh3)) ?_
         obtain ⟨c2763, h⟩ := ite_n h
         refine DK.cons rfl rfl (.gp rfl rfl rfl hb2761 (.s 86 rfl (.s 94 rfl .nil)) rfl (q_index rfl el200 rfl c2763.1 c2763.2)) <| DK.cons rfl rfl (.gp rfl rfl rfl hb2761 (.s 95 rfl .nil) rfl (q_load rfl sh111)) <| DK.cons rfl rfl (.gp rfl rfl rfl hb2761 (.s 4 rfl .nil) rfl (q_move rfl)) ?_
         obtain ⟨c2764, h⟩ := ite_n h
         refine DK.cons rfl rfl (.gp rfl rfl rfl hb2761 (.s 96 rfl (.s 97 rfl .nil)) rfl (q_index rfl el111 rfl c2764.1 c2764.2)) <| DK.cons rfl rfl (.gp rfl rfl rfl hb2761 (.s 98 rfl .nil) rfl (q_load rfl sh4)) <| DK.cons rfl rfl (.gp rfl rfl rfl hb2761 (.s 99 rfl .nil) rfl (q_not rfl)) <| DK.cons rfl rfl (.p rfl (.s 82 rfl (.s 100 rfl .nil)) rfl (q_pickF rfl hb2761)) <| dm rfl rfl rfl ?_
         rcases bif_s h with ⟨hb2765, h⟩ | ⟨hb2765, h⟩
         ·refine dx rfl rfl rfl hb2765 <| dx rfl rfl rfl hb2765 <| dx rfl rfl rfl hb2765 <| dx rfl rfl rfl hb2765 <| dx rfl rfl rfl hb2765 <| DK.cons rfl rfl (.und rfl rfl rfl) <| DK.cons rfl rfl (.und rfl rfl rfl) <| DK.cons rfl rfl (.und rfl rfl rfl) <| DK.cons rfl rfl (.und rfl rfl rfl) <| DK.cons rfl rfl (.und rfl rfl rfl) <| DK.cons rfl rfl (.und rfl rfl rfl) <| dx rfl rfl rfl hb2765 <| DK.cons rfl rfl (.p rfl (.s 102 rfl (.k .nil)) rfl (q_pickT rfl hb2765)) ?_
          refine DK.nil <| CSteps.nil ?_
          exact QN.weaken (.o4 rfl (.o2 rfl (.one rfl (.nil _)))) (Kj2733 () true h)
         ·refine DK.cons rfl rfl (.gp rfl rfl rfl hb2765 (.s 0 rfl .nil) rfl (q_move rfl)) <| DK.cons rfl rfl (.gp rfl rfl rfl hb2765 (.s 103 rfl .nil) rfl (q_nilCheckP rfl)) <| DK.cons rfl rfl (.gp rfl rfl rfl hb2765 (.s 104 rfl .nil) rfl (q_fieldP rfl fo238_4)) <| DK.cons rfl rfl (.go rfl rfl rfl hb2765 (.s 105 rfl .nil) rfl (q_loadB rfl sh4 (i := 0) rfl rfl)) <| DK.cons rfl rfl (.gp rfl rfl rfl hb2765 (.s 106 rfl .nil) rfl (q_move rfl)) ?_
          rcases bif_s h with ⟨hb2766, h⟩ | ⟨hb2766, h⟩
          ·refine DK.cons rfl rfl (.gp rfl rfl rfl hb2766 (.s 0 rfl .nil) rfl (q_move rfl)) <| DK.cons rfl rfl (.gp rfl rfl rfl hb2766 (.s 108 rfl .nil) rfl (q_nilCheckP rfl)) <| DK.cons rfl rfl (.gp rfl rfl rfl hb2766 (.s 109 rfl .nil) rfl (q_fieldP rfl fo238_6)) <| DK.cons rfl rfl (.go rfl rfl rfl hb2766 (.s 110 rfl .nil) rfl (q_loadB rfl sh26 (i := 0) rfl rfl)) <| DK.cons rfl rfl (.gp rfl rfl rfl hb2766 (.s 3 rfl .nil) rfl (q_move rfl)) ?_
           obtain ⟨t2767, ht2767, h⟩ := bind_s h
           refine DK.cons rfl rfl (.go rfl rfl rfl hb2766 (.s 111 rfl (.s 112 rfl .nil)) rfl (q_lend (f := 195) (A := bA t2767) (xs := [.tmp 111, .tmp 112]) («as» := [HdA g0.1, iA x63]) rfl ca195 (slices_Contains_int.con k y9 x63 t2767 ht2767) rfl (.cons (.slc 1 rfl) (.cons (.id _) .nil)) (Flat.eq _))) <| DK.cons rfl rfl (.gp rfl rfl rfl hb2765 (.s 107 rfl (.s 113 rfl .nil)) rfl (q_pickT rfl hb2766)) <| DK.cons rfl rfl (.p rfl (.s 102 rfl (.s 114 rfl .nil)) rfl (q_pickF rfl hb2765)) <| DK.nil <| CSteps.nil ?_
           exact QN.weaken (.o4 rfl (.o2 rfl (.one rfl (.nil _)))) (Kj2733 () t2767 h)
          ·refine dx rfl rfl rfl hb2766 <| dx rfl rfl rfl hb2766 <| dx rfl rfl rfl hb2766 <| dx rfl rfl rfl hb2766 <| dx rfl rfl rfl hb2766 <| dx rfl rfl rfl hb2766 <| DK.cons rfl rfl (.gp rfl rfl rfl hb2765 (.s 107 rfl (.k .nil)) rfl (q_pickF rfl hb2766)) <| DK.cons rfl rfl (.p rfl (.s 102 rfl (.s 114 rfl .nil)) rfl (q_pickF rfl hb2765)) <| DK.nil <| CSteps.nil ?_
           exact QN.weaken (.o4 rfl (.o2 rfl (.one rfl (.nil _)))) (Kj2733 () false h)
       ·refine dx rfl rfl rfl hb2760 <| dx rfl rfl rfl hb2760 <| dx rfl rfl rfl hb2760 <| DK.cons rfl rfl (.p rfl (.s 77 rfl (.k .nil)) rfl (q_pickF rfl hb2760)) <| dm rfl rfl rfl <| DK.cons rfl rfl (.gp rfl rfl rfl rfl (.s 0 rfl .nil) rfl (q_move rfl)) <| DK.cons rfl rfl (.gp rfl rfl rfl rfl (.s 83 rfl .nil) rfl (q_nilCheckP rfl)) <| DK.cons rfl rfl (.gp rfl rfl rfl rfl (.s 84 rfl .nil) rfl (q_fieldP rfl fo238_2)) <| DK.cons rfl rfl (.go rfl rfl rfl rfl (.s 85 rfl .nil) rfl (q_loadB rfl sh200 (i := 0) rfl rfl)) <| DK.cons rfl rfl (.gp rfl rfl rfl rfl (.s 0 rfl .nil) rfl (q_move rfl)) <| DK.cons rfl rfl (.gp rfl rfl rfl rfl (.s 87 rfl .nil) rfl (q_nilCheckP rfl)) <| DK.cons rfl rfl (.gp rfl rfl rfl rfl (.s 88 rfl .nil) rfl (q_fieldP rfl fo238_0)) <| DK.cons rfl rfl (.gp rfl rfl rfl rfl (.s 89 rfl .nil) rfl (q_fieldP rfl fo38_0)) ?_
        refine DK.cons rfl rfl (.go rfl rfl rfl rfl (.s 90 rfl .nil) rfl (q_loadB rfl sh26 (i := 0) rfl rfl)) <| DK.cons rfl rfl (.gp rfl rfl rfl rfl (.s 2 rfl .nil) rfl (q_move rfl)) ?_
        obtain ⟨c2768, h⟩ := ite_n h
        refine DK.cons rfl rfl (.gp rfl rfl rfl rfl (.s 91 rfl (.s 92 rfl .nil)) rfl (q_index rfl el26 rfl c2768.1 c2768.2)) <| DK.cons rfl rfl (.gp rfl rfl rfl rfl (.s 93 rfl .nil) rfl (q_load rfl sh3)) ?_
        obtain ⟨c2769, h⟩ := ite_n h
        refine DK.cons rfl rfl (.gp rfl rfl rfl rfl (.s 86 rfl (.s 94 rfl .nil)) rfl (q_index rfl el200 rfl c2769.1 c2769.2)) <| DK.cons rfl rfl (.gp rfl rfl rfl rfl (.s 95 rfl .nil) rfl (q_load rfl sh111)) <| DK.cons rfl rfl (.gp rfl rfl rfl rfl (.s 4 rfl .nil) rfl (q_move rfl)) ?_
        obtain ⟨c2770, h⟩ := ite_n h
        refine DK.cons rfl rfl (.gp rfl rfl rfl rfl (.s 96 rfl (.s 97 rfl .nil)) rfl (q_index rfl el111 rfl c2770.1 c2770.2)) <| DK.cons rfl rfl (.gp rfl rfl rfl rfl (.s 98 rfl .nil) rfl (q_load rfl sh4)) <| DK.cons rfl rfl (.gp rfl rfl rfl rfl (.s 99 rfl .nil) rfl (q_not rfl)) <| DK.cons rfl rfl (.p rfl (.s 82 rfl (.s 100 rfl .nil)) rfl (q_pickF rfl rfl)) <| dm rfl rfl rfl ?_
        rcases bif_s h with ⟨hb2771, h⟩ | ⟨hb2771, h⟩
        ·refine dx rfl rfl rfl hb2771 <| dx rfl rfl rfl hb2771 <| dx rfl rfl rfl hb2771 <| dx rfl rfl rfl hb2771 <| dx rfl rfl rfl hb2771 <| DK.cons rfl rfl (.und rfl rfl rfl) <| DK.cons rfl rfl (.und rfl rfl rfl) <| DK.cons rfl rfl (.und rfl rfl rfl) <| DK.cons rfl rfl (.und rfl rfl rfl) <| DK.cons rfl rfl (.und rfl rfl rfl) <| DK.cons rfl rfl (.und rfl rfl rfl) <| dx rfl rfl rfl hb2771 <| DK.cons rfl rfl (.p rfl (.s 102 rfl (.k .nil)) rfl (q_pickT rfl hb2771)) ?_
         refine DK.nil <| CSteps.nil ?_
         exact QN.weaken (.o4 rfl (.o2 rfl (.one rfl (.nil _)))) (Kj2733 () true h)
        ·refine DK.cons rfl rfl (.gp rfl rfl rfl hb2771 (.s 0 rfl .nil) rfl (q_move rfl)) <| DK.cons rfl rfl (.gp rfl rfl rfl hb2771 (.s 103 rfl .nil) rfl (q_nilCheckP rfl)) <| DK.cons rfl rfl (.gp rfl rfl rfl hb2771 (.s 104 rfl .nil) rfl (q_fieldP rfl fo238_4)) <| DK.cons rfl rfl (.go rfl rfl rfl hb2771 (.s 105 rfl .nil) rfl (q_loadB rfl sh4 (i := 0) rfl rfl)) <| DK.cons rfl rfl (.gp rfl rfl rfl hb2771 (.s 106 rfl .nil) rfl (q_move rfl)) ?_
         rcases bif_s h with ⟨hb2772, h⟩ | ⟨hb2772, h⟩
         ·refine DK.cons rfl rfl (.gp rfl rfl rfl hb2772 (.s 0 rfl .nil) rfl (q_move rfl)) <| DK.cons rfl rfl (.gp rfl rfl rfl hb2772 (.s 108 rfl .nil) rfl (q_nilCheckP rfl)) <| DK.cons rfl rfl (.gp rfl rfl rfl hb2772 (.s 109 rfl .nil) rfl (q_fieldP rfl fo238_6)) <| DK.cons rfl rfl (.go rfl rfl rfl hb2772 (.s 110 rfl .nil) rfl (q_loadB rfl sh26 (i := 0) rfl rfl)) <| DK.cons rfl rfl (.gp rfl rfl rfl hb2772 (.s 3 rfl .nil) rfl (q_move rfl)) ?_
          obtain ⟨t2773, ht2773, h⟩ := bind_s h
          refine DK.cons rfl rfl (.go rfl rfl rfl hb2772 (.s 111 rfl (.s 112 rfl .nil)) rfl (q_lend (f := 195) (A := bA t2773) (xs := [.tmp 111, .tmp 112]) («as» := [HdA g0.1, iA x63]) rfl ca195 (slices_Contains_int.con k y9 x63 t2773 ht2773) rfl (.cons (.slc 1 rfl) (.cons (.id _) .nil)) (Flat.eq _))) <| DK.cons rfl rfl (.gp rfl rfl rfl hb2771 (.s 107 rfl (.s 113 rfl .nil)) rfl (q_pickT rfl hb2772)) <| DK.cons rfl rfl (.p rfl (.s 102 rfl (.s 114 rfl .nil)) rfl (q_pickF rfl hb2771)) <| DK.nil <| CSteps.nil ?_
          exact QN.weaken (.o4 rfl (.o2 rfl (.one rfl (.nil _)))) (Kj2733 () t2773 h)
         ·refine dx rfl rfl rfl hb2772 <| dx rfl rfl rfl hb2772 <| dx rfl rfl rfl hb2772 <| dx rfl rfl rfl hb2772 <| dx rfl rfl rfl hb2772 <| dx rfl rfl rfl hb2772 <| DK.cons rfl rfl (.gp rfl rfl rfl hb2771 (.s 107 rfl (.k .nil)) rfl (q_pickF rfl hb2772)) <| DK.cons rfl rfl (.p rfl (.s 102 rfl (.s 114 rfl .nil)) rfl (q_pickF rfl hb2771)) <| DK.nil <| CSteps.nil ?_
          exact QN.weaken (.o4 rfl (.o2 rfl (.one rfl (.nil _)))) (Kj2733 () false h)
     ·refine W.exit <| QX.then_ <| QX.then_ <| QX.here ?_
      exact QN.weaken (.one rfl (.nil _)) (Kj2331 (g0.1, g0.2.1, g0.2.2) y9 y10 y11 h)
    ·refine W.seq <| W.drawK [(0, false), (1, false), (2, false), (3, true), (4, true), (5, false), (6, false), (7, false), (8, false), (9, true), (10, false), (11, false), (12, false)] [] (bm [0, 1, 3, 7, 15, 0, 32, 96, 224, 480, 992, 2047, 4095]) mx (by kernel_rfl) <| dm rfl rfl rfl <| DK.cons rfl rfl (.p rfl (.s 141 rfl .nil) rfl (q_nilCheckP rfl)) <| DK.cons rfl rfl (.p rfl (.s 142 rfl .nil) rfl (q_fieldP rfl fo238_7)) <| DK.cons rfl rfl (.o rfl (.s 143 rfl .nil) rfl (q_loadB rfl sh26 (i := 0) rfl rfl)) <| DK.cons rfl rfl (.o rfl (.s 144 rfl .nil) rfl (q_lenO rfl elS26 (i := 2) rfl)) <| dm rfl rfl rfl <| DK.cons rfl rfl (.p rfl (.s 146 rfl .nil) rfl (q_nilCheckP rfl)) <| DK.cons rfl rfl (.p rfl (.s 147 rfl .nil) rfl (q_fieldP rfl fo238_0)) <| DK.cons rfl rfl (.p rfl (.s 148 rfl .nil) rfl (q_fieldP rfl fo38_1)) <| DK.cons rfl rfl (.o rfl (.s 149 rfl .nil) rfl (q_loadB rfl sh36 (i := 0) rfl rfl)) <| DK.cons rfl rfl (.p rfl (.s 150 rfl .nil) rfl (q_len rfl elS36)) ?_
     refine DK.cons rfl rfl (.p rfl (.s 145 rfl (.s 151 rfl .nil)) rfl (q_int rfl rfl)) <| DK.cons rfl rfl (.p rfl (.s 152 rfl .nil) rfl (q_assign rfl)) <| DK.nil <| CSteps.nil <| QN.weaken (env' := [(140, _), (0, _)]) (.o2 rfl (.nil _)) <| QN.then_ ?_
     refine W.condP h rfl (fun hb2922 h => ?_) (fun hb2922 h => ?_)
     ·refine sr <| mv rfl rfl <| p1 rfl 153 rfl (q_nilCheckP rfl) <| p1 rfl 154 rfl (q_fieldP rfl fo238_7) <| WL.q (Wanted.plain rfl) rfl rfl (.s 155 rfl .nil) (q_loadB rfl sh26 (i := 0) rfl rfl) <| WL.q (Wanted.plain rfl) rfl rfl (.s 156 rfl .nil) (q_lenO rfl elS26 (i := 2) rfl) <| av rfl rfl <| nx <| mv rfl rfl ?_
      refine p1 rfl 158 rfl (q_nilCheckP rfl) <| p1 rfl 159 rfl (q_fieldP rfl fo238_1) <| p1 rfl 160 rfl (q_fieldP rfl fo38_1) <| WL.q (Wanted.plain rfl) rfl rfl (.s 161 rfl .nil) (q_loadB rfl sh36 (i := 0) rfl rfl) <| p1 rfl 162 rfl (q_len rfl elS36) <| mk_ rfl <| WL.nil <| QN.weaken (env' := [(164, _), (163, _), (6, _), (0, _)]) (.o4 rfl (.nil _)) <| QN.then_ <| W.block ?_
      refine W.loop4 (Γ := (Value × Value × Value)) (fun (_ : (Value × Value × Value)) (_ : (List Int)) (_ : (List Int)) (_ : (List Morphism)) (x164 : Int) => [(0, EqA (.pointer (some ⟨b, 0, none⟩))), (6, iA (a0.fedges.length : Int)), (163, iA (a0.fg.fEdges.length : Int)), (164, iA x164)]) (fun (g1 : (Value × Value × Value)) (y9 : (List Int)) (y10 : (List Int)) (y11 : (List Morphism)) (_ : Int) => [BoxE b [SlcA kInt a0.fp.fNodes, SlcA kEdge a0.fp.fEdges, SlcA kInt a0.fg.fNodes, SlcA kEdge a0.fg.fEdges, SlcA (kSl kBool) a0.fis, OptA kInt a0.fpartial.fNodes, OptA kInt a0.fpartial.fEdges, bA a0.finjective, iA a0.fmost, HdA g1.1, HdA g1.2.1, HdA g1.2.2], SlE 3 g1.1 kInt y9, SlE 3 g1.2.1 kInt y10, SlE 64 g1.2.2 kMorphism y11]) h (w0, w1, w2) (.o4 rfl (.nil _)) rfl (fun rec1 K1 next1 g1 y9 y10 y11 x164 h => ?_)
      unfold search_finder_find.b1 at h
      refine sr <| p2 rfl 164 rfl 163 rfl (q_int rfl rfl) <| nt <| W.seq ?_
      refine W.condP h rfl (fun hb3017 h => ?_) (fun hb3017 h => ?_)
      ·refine W.skip <| QN.then_ <| W.seq <| W.block <| sr <| mv rfl rfl <| av rfl rfl <| nt <| W.seq <| W.seq ?_
       refine W.jn1 (Γ := Unit) (fun (_ : Unit) (x185 : Bool) => [(0, EqA (.pointer (some ⟨b, 0, none⟩))), (6, iA (a0.fedges.length : Int)), (163, iA (a0.fg.fEdges.length : Int)), (164, iA x164), (7, iA x164), (185, bA x185)]) (fun (_ : Unit) (_ : Bool) => [BoxE b [SlcA kInt a0.fp.fNodes, SlcA kEdge a0.fp.fEdges, SlcA kInt a0.fg.fNodes, SlcA kEdge a0.fg.fEdges, SlcA (kSl kBool) a0.fis, OptA kInt a0.fpartial.fNodes, OptA kInt a0.fpartial.fEdges, bA a0.finjective, iA a0.fmost, HdA g1.1, HdA g1.2.1, HdA g1.2.2], SlE 3 g1.1 kInt y9, SlE 3 g1.2.1 kInt y10, SlE 64 g1.2.2 kMorphism y11]) h (fun _ x185 h => ?_) (fun j3042 Kj3042 h => ?_)
       ·refine QN.then_ ?_
        refine W.condP h rfl (fun hb3043 h => ?_) (fun hb3043 h => ?_)
        ·refine W.exit <| QX.then_ <| QX.here <| QN.then_ <| W.region ?_
         obtain ⟨c3044, h⟩ := ite_n h
         refine pk rfl 164 rfl (q_addR rfl c3044) <| mv rfl rfl <| WL.nil ?_
         exact next1 (g1.1, g1.2.1, g1.2.2) y9 y10 y11 (x164 + 1) _ h (.o4 rfl (.nil _))
        ·refine W.skip <| QN.then_ <| sr <| mv rfl rfl <| mv rfl rfl <| p1 rfl 187 rfl (q_nilCheckP rfl) <| p1 rfl 188 rfl (q_fieldP rfl fo238_7) <| WL.q (Wanted.plain rfl) rfl rfl (.s 189 rfl .nil) (q_loadB rfl sh26 (i := 0) rfl rfl) <| mv rfl rfl <| p1 rfl 191 rfl (q_lit (kd := kInt) (ps := [(0, .tmp 191)]) (xs := [.tmp 191]) («as» := [iA x164]) (ys := [x164]) rfl rfl el26 rfl gr3 rfl rfl rfl (.cons (CellsOf.one rfl) .nil)) ?_
         obtain ⟨c3045, h⟩ := ite_n h
         refine WL.w [2] rfl (Wanted.plain rfl) rfl rfl (.s 190 rfl (.s 192 rfl .nil)) (w_append (kd := kInt) rfl el26 rfl gr3 c3045) ?_
         rintro _ _ ⟨v3046, rfl, rfl⟩
         refine p1 rfl 186 rfl (q_nilCheckP rfl) <| p1 rfl 194 rfl (q_fieldP rfl fo238_7) <| WL.w0 [1] rfl (Wanted.plain rfl) rfl (.s 195 rfl (.s 193 rfl .nil)) (w_store (L := [SlcA kInt a0.fp.fNodes, SlcA kEdge a0.fp.fEdges, SlcA kInt a0.fg.fNodes, SlcA kEdge a0.fg.fEdges, SlcA (kSl kBool) a0.fis, OptA kInt a0.fpartial.fNodes, OptA kInt a0.fpartial.fEdges, bA a0.finjective, iA a0.fmost, HdA g1.1, HdA v3046, HdA g1.2.2]) rfl sh26 (CellsOf.one rfl) rfl rfl (leB rfl) rfl) ?_
         rintro _ _ ⟨rfl, rfl⟩
         refine WL.nil <| QN.weaken (env' := [(164, _), (163, _), (6, _), (0, _)]) (.o4 rfl (.nil _)) <| QN.then_ <| sr <| mv rfl rfl ?_
         obtain ⟨t3047, ht3047, h⟩ := bind_s h
         refine WL.w [0, 1, 0, 0] rfl (Wanted.plain rfl) rfl rfl (.s 196 rfl .nil) (w_callI (f := 191) (xs := [.tmp 196]) («as» := [EqA (.pointer (some ⟨b, 0, none⟩))]) rfl ca191 (ih b g1.1 v3046 g1.2.2 (Finder.mk a0.fp a0.fg a0.fis a0.fpartial a0.finjective a0.fmost y9 (y10 ++ [x164]) y11) t3047 ht3047) rfl (.cons (Imp.id _) .nil)) ?_
         rintro _ _ ⟨v3048, v3049, v3050, rfl, rfl⟩
         refine nt <| W.region <| mv rfl rfl <| mv rfl rfl <| p1 rfl 199 rfl (q_nilCheckP rfl) <| p1 rfl 200 rfl (q_fieldP rfl fo238_7) <| WL.q (Wanted.plain rfl) rfl rfl (.s 201 rfl .nil) (q_loadB rfl sh26 (i := 0) rfl rfl) <| mv rfl rfl ?_
         obtain ⟨c3051, h⟩ := ite_n h
         refine WL.w [2] rfl (Wanted.plain rfl) rfl rfl (.s 202 rfl (.s 203 rfl .nil)) (w_sub rfl el26 rfl c3051.1 c3051.2) ?_
         rintro _ _ ⟨v3052, rfl, rfl⟩
         refine p1 rfl 198 rfl (q_nilCheckP rfl) <| p1 rfl 205 rfl (q_fieldP rfl fo238_7) <| WL.w0 [1] rfl (Wanted.plain rfl) rfl (.s 206 rfl (.s 204 rfl .nil)) (w_store (L := [SlcA kInt a0.fp.fNodes, SlcA kEdge a0.fp.fEdges, SlcA kInt a0.fg.fNodes, SlcA kEdge a0.fg.fEdges, SlcA (kSl kBool) a0.fis, OptA kInt a0.fpartial.fNodes, OptA kInt a0.fpartial.fEdges, bA a0.finjective, iA a0.fmost, HdA v3048, HdA v3052, HdA v3050]) rfl sh26 (CellsOf.one rfl) rfl rfl (leB rfl) rfl) ?_
         rintro _ _ ⟨rfl, rfl⟩
         refine WL.nil <| QN.block <| QN.weaken (env' := [(164, _), (163, _), (6, _), (0, _)]) (.o4 rfl (.nil _)) <| QN.then_ <| W.region ?_
         obtain ⟨c3053, h⟩ := ite_n h
         refine pk rfl 164 rfl (q_addR rfl c3053) <| mv rfl rfl <| WL.nil <| QN.order [0, 1, 0, 0] rfl ?_
         exact next1 (v3048, v3052, v3050) t3047.1 (t3047.2.1.take ((a0.fedges.length : Int) : Int).toNat) t3047.2.2 (x164 + 1) _ h (.o4 rfl (.nil _))
       ·refine W.region <| mv rfl rfl <| mv rfl rfl <| mv rfl rfl ?_
        obtain ⟨t3054, ht3054, h⟩ := bind_s h
        refine WL.q (Wanted.plain rfl) rfl rfl (.s 167 rfl (.s 168 rfl (.s 169 rfl .nil))) (q_lend (f := 209) (A := bA t3054) (xs := [.tmp 167, .tmp 168, .tmp 169]) («as» := [EqA (.pointer (some ⟨b, 0, none⟩)), iA (a0.fedges.length : Int), iA x164]) rfl ca209 (search_finder_fits.con k (Finder.mk a0.fp a0.fg a0.fis a0.fpartial a0.finjective a0.fmost y9 y10 y11) (a0.fedges.length : Int) x164 t3054 ht3054) rfl (.cons (.box 0 rfl (.cons (.id _) (.cons (.id _) (.cons (.id _) (.cons (.id _) (.cons (.id _) (.cons (.id _) (.cons (.id _) (.cons (.id _) (.cons (.id _) (.cons (.slc 1 rfl) (.cons (.slc 2 rfl) (.cons (.slc 3 rfl) .nil))))))))))))) (.cons (.id _) (.cons (.id _) .nil))) (Flat.eq _)) <| p1 rfl 170 rfl (q_not rfl) <| mv rfl rfl ?_
        rcases bif_s h with ⟨hb3055, h⟩ | ⟨hb3055, h⟩
        ·refine sk rfl rfl rfl hb3055 <| sk rfl rfl rfl hb3055 <| sk rfl rfl rfl hb3055 <| sk rfl rfl rfl hb3055 <| sk rfl rfl rfl hb3055 <| su rfl rfl rfl <| su rfl rfl rfl <| su rfl rfl rfl <| su rfl rfl rfl <| su rfl rfl rfl <| su rfl rfl rfl <| sk rfl rfl rfl hb3055 <| pk rfl 172 rfl (q_pickT rfl hb3055) ?_
         refine WL.nil ?_
         exact QN.weaken (.o4 rfl (.o2 rfl (.nil _))) (Kj3042 () true h)
        ·refine wm rfl rfl rfl hb3055 rfl rfl <| wq rfl rfl rfl hb3055 (.s 173 rfl .nil) (q_nilCheckP rfl).o <| wq rfl rfl rfl hb3055 (.s 174 rfl .nil) (q_fieldP rfl fo238_4).o <| wq rfl rfl rfl hb3055 (.s 175 rfl .nil) (q_loadB rfl sh4 (i := 0) rfl rfl) <| wm rfl rfl rfl hb3055 rfl rfl ?_
         rcases bif_s h with ⟨hb3056, h⟩ | ⟨hb3056, h⟩
         ·refine wm rfl rfl rfl hb3056 rfl rfl <| wq rfl rfl rfl hb3056 (.s 178 rfl .nil) (q_nilCheckP rfl).o <| wq rfl rfl rfl hb3056 (.s 179 rfl .nil) (q_fieldP rfl fo238_7).o <| wq rfl rfl rfl hb3056 (.s 180 rfl .nil) (q_loadB rfl sh26 (i := 0) rfl rfl) <| wm rfl rfl rfl hb3056 rfl rfl ?_
          obtain ⟨t3057, ht3057, h⟩ := bind_s h
          refine wq rfl rfl rfl hb3056 (.s 181 rfl (.s 182 rfl .nil)) (q_lend (f := 195) (A := bA t3057) (xs := [.tmp 181, .tmp 182]) («as» := [HdA g1.2.1, iA x164]) rfl ca195 (slices_Contains_int.con k y10 x164 t3057 ht3057) rfl (.cons (.slc 2 rfl) (.cons (.id _) .nil)) (Flat.eq _)) <| wq rfl rfl rfl hb3055 (.s 177 rfl (.s 183 rfl .nil)) (q_pickT rfl hb3056).o <| p2 rfl 172 rfl 184 rfl (q_pickF rfl hb3055) <| WL.nil ?_
          exact QN.weaken (.o4 rfl (.o2 rfl (.nil _))) (Kj3042 () t3057 h)
         ·refine sk rfl rfl rfl hb3056 <| sk rfl rfl rfl hb3056 <| sk rfl rfl rfl hb3056 <| sk rfl rfl rfl hb3056 <| sk rfl rfl rfl hb3056 <| sk rfl rfl rfl hb3056 <| wq rfl rfl rfl hb3055 (.s 177 rfl (.k .nil)) (q_pickF rfl hb3056).o <| p2 rfl 172 rfl 184 rfl (q_pickF rfl hb3055) <| WL.nil ?_
          exact QN.weaken (.o4 rfl (.o2 rfl (.nil _))) (Kj3042 () false h)
      ·refine W.exit <| QX.then_ <| QX.then_ <| QX.here ?_
       exact QN.weaken (.one rfl (.nil _)) (Kj2331 (g1.1, g1.2.1, g1.2.2) y9 y10 y11 h)
     ·refine W.drawK [(0, false), (1, false), (2, false), (3, false), (4, true), (5, false), (6, false), (7, false), (8, true), (9, true), (10, false), (11, false), (12, false), (13, true), (14, true), (15, false), (16, false)] [17, 18, 19, 20] (bm [0, 0, 2, 6, 14, 0, 32, 96, 224, 480, 0, 1024, 3072, 7168, 16352, 32736, 65504, 131070, 262143, 524287, 1048575]) mx (by kernel_rfl) <| dm rfl rfl rfl <| dm rfl rfl rfl <| DK.cons rfl rfl (.p rfl (.s 9 rfl .nil) rfl (q_nilCheckP rfl)) <| DK.cons rfl rfl (.p rfl (.s 10 rfl .nil) rfl (q_fieldP rfl fo238_8)) <| DK.cons rfl rfl (.o rfl (.s 11 rfl .nil) rfl (q_loadB rfl sh133 (i := 0) rfl rfl)) <| dm rfl rfl rfl <| DK.cons rfl rfl (.p rfl (.s 13 rfl .nil) rfl (q_nilCheckP rfl)) <| DK.cons rfl rfl (.p rfl (.s 14 rfl .nil) rfl (q_fieldP rfl fo238_6)) <| DK.cons rfl rfl (.o rfl (.s 15 rfl .nil) rfl (q_loadB rfl sh26 (i := 0) rfl rfl)) ?_
      obtain ⟨t3066, ht3066, h⟩ := bind_s h
      refine DK.cons rfl rfl (.o rfl (.s 16 rfl .nil) rfl (q_lendNew (f := 11) (xs := [.tmp 16]) («as» := [HdA w0]) rfl ca11 (slices_Clone_int.conN k a0.fnodes t3066 ht3066) rfl (.cons (.slc 1 rfl) .nil) kIntFlat)) <| dm rfl rfl rfl <| DK.cons rfl rfl (.p rfl (.s 18 rfl .nil) rfl (q_nilCheckP rfl)) <| DK.cons rfl rfl (.p rfl (.s 19 rfl .nil) rfl (q_fieldP rfl fo238_7)) <| DK.cons rfl rfl (.o rfl (.s 20 rfl .nil) rfl (q_loadB rfl sh26 (i := 0) rfl rfl)) ?_
      obtain ⟨t3067, ht3067, h⟩ := bind_s h
      refine DK.cons rfl rfl (.o rfl (.s 21 rfl .nil) rfl (q_lendNew (f := 11) (xs := [.tmp 21]) («as» := [HdA w1]) rfl ca11 (slices_Clone_int.conN k a0.fedges t3067 ht3067) rfl (.cons (.slc 2 rfl) .nil) kIntFlat)) <| DK.cons rfl rfl (.p rfl (.s 17 rfl (.s 22 rfl .nil)) rfl (q_build (is := [0, 1]) (xs := [.tmp 17, .tmp 22]) (L := [SlcA kInt t3066, SlcA kInt t3067]) rfl rfl z64 pl64 rfl rfl (.cons (CellsOf.one rfl) (.cons (CellsOf.one rfl) .nil)) rfl)) <| DK.cons rfl rfl (.p rfl (.s 23 rfl .nil) rfl (q_lit (kd := kMorphism) (ps := [(0, .tmp 23)]) (xs := [.tmp 23]) («as» := [AggA [SlcA kInt t3066, SlcA kInt t3067]]) (ys := [(Morphism.mk t3066 t3067)]) rfl rfl el133 rfl gr64 rfl rfl rfl (.cons (CellsOf.agg _) .nil))) ?_
      obtain ⟨c3068, h⟩ := ite_n h
      refine DK.nil <| CSteps.w [3] rfl rfl rfl rfl (.s 12 rfl (.s 24 rfl .nil)) rfl (w_append (kd := kMorphism) rfl el133 rfl gr64 c3068) ?_
      rintro _ _ ⟨v3069, rfl, rfl⟩
      refine CSteps.p rfl rfl rfl (.s 8 rfl .nil) rfl (q_nilCheckP rfl) <| CSteps.p rfl rfl rfl (.s 26 rfl .nil) rfl (q_fieldP rfl fo238_8) <| CSteps.w0 [1] rfl rfl rfl (.s 27 rfl (.s 25 rfl .nil)) rfl (w_store (L := [SlcA kInt a0.fp.fNodes, SlcA kEdge a0.fp.fEdges, SlcA kInt a0.fg.fNodes, SlcA kEdge a0.fg.fEdges, SlcA (kSl kBool) a0.fis, OptA kInt a0.fpartial.fNodes, OptA kInt a0.fpartial.fEdges, bA a0.finjective, iA a0.fmost, HdA w0, HdA w1, HdA v3069]) rfl sh133 (CellsOf.one rfl) rfl rfl (leB rfl) rfl) ?_
      rintro _ _ ⟨rfl, rfl⟩
      refine CSteps.nil <| QN.order [0, 1, 1, 0] rfl ?_
      exact QN.weaken (.one rfl (.nil _)) (Kj2331 (w0, w1, v3069) a0.fnodes a0.fedges (a0.fout ++ [(Morphism.mk t3066 t3067)]) h)
end Go.Proofs.YtcgdfjpeboiioaaGreat
