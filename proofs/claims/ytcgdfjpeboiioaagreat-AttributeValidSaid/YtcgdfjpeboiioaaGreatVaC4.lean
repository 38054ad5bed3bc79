import Derived.Test.YtcgdfjpeboiioaaGreatVaC3
namespace Go.Proofs.YtcgdfjpeboiioaaGreat
open Go Go.Abs
attribute [local irreducible] Tryz.prog
theorem host_Valid.con (k : Nat) (a0 : Types) (a1 : Host) (r : (Int × Int)) (h : host_Valid k a0 a1 = some r) : Con Tryz.prog 118 [] [AggA [SlcA kNodeType a0.fNodes, SlcA kEdgeType a0.fEdges], AggA [SlcA kInt a1.fGraph.fNodes, SlcA kEdge a1.fGraph.fEdges, SlcA (kSl kInt) a1.fValues]] (RA (TupA [iA r.1, iA r.2])) := by
 unfold host_Valid at h
 refine vJ (N := 95) Tryz.func118 R R R fun w0_ fg_ => sr <| p1 R 0 R (q_box R (qy _)) <| p1 R 1 R (q_box R (qy _)) <| ak R <| ak R <| nt <| qX <| sr <| lS R R sh35 R R ?_
 obtain ⟨t100, ht100, h⟩ := vw h
 refine p1 R 15 R (vy (f := 49) (A := TupA [EqA (strV t100.1), iA t100.2]) (xs := [.tmp 15]) («as» := [AggA [SlcA kNodeType a0.fNodes, SlcA kEdgeType a0.fEdges]]) R ca49 (types_Valid.con k a0 t100 ht100) R) <| mv R R <| p1 R 14 R (vV R R) <| p1 R 14 R (vV R R) <| av R R <| av R R <| qx <| qw (env' := [(7, _), (3, _), (2, _)]) (.o2 R (.one R (.nil _))) <| qq <| sr <| mv R R <| pk R 19 R (qN R R) ?_
 refine nt ?_
 refine qZ h R (fun hb101 h => ?_) (fun hb101 h => ?_)
 ·refine sr <| mv R R <| ak R <| av R R <| nt <| vq <| qQ ?_
  cases h
  exact QR.f2 R R (.t R) (.t R) (.id _)
 ·refine qB <| qq <| qX <| sr <| fd R R fo60_0 R <| lS R R sh38 R R ?_
  obtain ⟨t102, ht102, h⟩ := vw h
  refine p1 R 23 R (vy (f := 50) (A := iA t102) (xs := [.tmp 23]) («as» := [AggA [SlcA kInt a1.fGraph.fNodes, SlcA kEdge a1.fGraph.fEdges]]) R ca50 (graph_Valid.con k a1.fGraph t102 ht102) R) <| av R R <| nx <| mv R R <| pk R 25 R (qN R R) <| qx <| qw (env' := [(26, _), (8, _), (3, _), (2, _)]) (.o4 R (.nil _)) <| qq ?_
  refine qZ h R (fun hb103 h => ?_) (fun hb103 h => ?_)
  ·refine sr <| mv R R <| ak R <| av R R <| nt <| vq <| qQ ?_
   cases h
   exact QR.f2 R R (.t R) (.t R) (.id _)
  ·refine qB <| qq <| qX <| sr <| fd R R fo60_1 R <| ld R R sh58 <| p1 R 29 R (vN R elS58) <| fd R R fo60_0 R <| fd R R fo38_0 R <| ld R R sh26 <| p1 R 33 R (vN R elS26) <| p2 R 30 R 34 R (qN R R) ?_
   refine qx <| qw (env' := [(35, _), (3, _), (2, _)]) (.o2 R (.one R (.nil _))) <| qq ?_
   refine qZ h R (fun hb104 h => ?_) (fun hb104 h => ?_)
   ·refine sr <| ak R <| ak R <| nt <| vq <| qQ ?_
    cases h
    exact QR.f2 R R (.t R) (.t R) (.id _)
   ·refine qB <| qq <| qX <| sr <| fd R R fo60_0 R <| fd R R fo38_0 R <| ld R R sh26 <| p1 R 38 R (vN R elS26) <| mk_ R <| nt <| vx ?_
    refine W.loop1 (Γ := Unit) (fun (_ : Unit) (x40 : Int) => [(2, PtrA [SlcA kNodeType a0.fNodes, SlcA kEdgeType a0.fEdges]), (3, PtrA [SlcA kInt a1.fGraph.fNodes, SlcA kEdge a1.fGraph.fEdges, SlcA (kSl kInt) a1.fValues]), (38, SlcA kInt a1.fGraph.fNodes), (39, iA (a1.fGraph.fNodes.length : Int)), (40, iA x40)]) (fun (_ : Unit) (_ : Int) => []) h () (.o4 R (.one R (.nil _))) R (fun rec0 K0 next0 _ x40 h => ?_)
    unfold host_Valid.b0 at h
    refine sr <| p2 R 40 R 39 R (qN R R) <| nt <| qX ?_
    refine qZ h R (fun hb215 h => ?_) (fun hb215 h => ?_)
    ·refine qB <| qq <| qX <| vx <| sr <| mv R R ?_
     obtain ⟨c216, h⟩ := qK h
     refine p2 R 38 R 40 R (vX R el26 R c216.1 c216.2) <| ld R R sh3 <| av R R <| av R R <| nt <| qX <| W.drawK [(0, false), (1, false), (2, false), (3, false), (4, false), (5, false), (6, false), (7, false), (8, false)] [] (bm [0, 0, 0, 4, 0, 28, 60, 127, 255]) mx (by kernel_rfl) <| qz R R (.p R (.s 2 R .nil) R (q_loadS R sh35 (leB R) R)) <| dm R R R <| df R R R fo60_1 R <| dl R R R sh58 <| dm R R R ?_
     obtain ⟨c221, h⟩ := qK h
     refine qz R R (.p R (.s 48 R (.s 49 R .nil)) R (vX R el58 R c221.1 c221.2)) <| dl R R R sh26 ?_
     obtain ⟨t222, ht222, h⟩ := vw h
     refine qz R R (.p R (.s 45 R (.s 46 R (.s 51 R .nil))) R (vy (f := 156) (A := iA t222) (xs := [.tmp 45, .tmp 46, .tmp 51]) («as» := [AggA [SlcA kNodeType a0.fNodes, SlcA kEdgeType a0.fEdges], iA (rd a1.fGraph.fNodes x40), SlcA kInt (rd a1.fValues x40)]) R ca156 (host_node.con k a0 (rd a1.fGraph.fNodes x40) (rd a1.fValues x40) t222 ht222) R)) <| qz R R (.p R (.s 52 R .nil) R (q_assign R)) <| DK.nil <| CSteps.nil <| qw (env' := [(11, _), (9, _), (40, _), (39, _), (38, _), (3, _), (2, _)]) (.o4 R (.o2 R (.one R (.nil _)))) <| qq <| sr <| mv R R <| pk R 53 R (qN R R) <| nt ?_
     refine qZ h R (fun hb223 h => ?_) (fun hb223 h => ?_)
     ·refine sr <| mv R R <| mv R R <| av R R <| av R R <| qx <| qw (env' := [(5, _), (4, _)]) (.o2 R (.nil _)) <| qq <| vq <| vz <| qQ <| qQ ?_
      refine vz <| qQ ?_
      cases h
      exact QR.f2 R R (.t R) (.t R) (.id _)
     ·refine qB <| vZ <| qq <| qJ ?_
      obtain ⟨c224, h⟩ := qK h
      refine pk R 40 R (vK R c224) <| mv R R <| qx ?_
      exact next0 () (x40 + 1) _ h (.o4 R (.one R (.nil _)))
    ·refine W.exit <| qV <| qV <| vB <| qq <| qX <| sr <| fd R R fo60_0 R <| fd R R fo38_1 R <| ld R R sh36 <| p1 R 60 R (vN R elS36) <| mk_ R ?_
     refine nt <| vx ?_
     refine W.loop1 (Γ := Unit) (fun (_ : Unit) (x62 : Int) => [(2, PtrA [SlcA kNodeType a0.fNodes, SlcA kEdgeType a0.fEdges]), (3, PtrA [SlcA kInt a1.fGraph.fNodes, SlcA kEdge a1.fGraph.fEdges, SlcA (kSl kInt) a1.fValues]), (60, SlcA kEdge a1.fGraph.fEdges), (61, iA (a1.fGraph.fEdges.length : Int)), (62, iA x62)]) (fun (_ : Unit) (_ : Int) => []) h () (.o4 R (.one R (.nil _))) R (fun rec1 K1 next1 _ x62 h => ?_)
     unfold host_Valid.b1 at h
     refine sr <| p2 R 62 R 61 R (qN R R) <| nt <| qX ?_
     refine qZ h R (fun hb255 h => ?_) (fun hb255 h => ?_)
     ·refine qB <| qq <| qX <| vx <| sr <| mv R R ?_
      obtain ⟨c256, h⟩ := qK h
      refine p2 R 60 R 62 R (vX R el36 R c256.1 c256.2) <| lS R R sh109 R R <| WL.w [] R (qj R) R R .nil (w_alloc R z109 (l := [iA 0, iA 0, iA 0]) R) ?_
      rintro _ _ ⟨b257, rfl, rfl⟩
      refine av R R <| WL.w0 [0] R (qj R) R (.s 13 R (.s 66 R .nil)) (w_store (L := [iA ((rd a1.fGraph.fEdges x62).fType), iA ((rd a1.fGraph.fEdges x62).fFrom), iA ((rd a1.fGraph.fEdges x62).fTo)]) R sh109 (qy _) R R (leB R) R) ?_
      rintro _ _ ⟨rfl, rfl⟩
      refine qx <| QN.to (StTo.still [0] 13 R R) <| qq <| qX <| sr <| fd R R fo109_0 R <| ld R R sh3 <| fd R R fo35_1 R <| ld R R sh33 <| p1 R 70 R (vN R elS33) <| p2 R 68 R 71 R (qN R R) <| qx ?_
      refine qw (env' := [(72, _), (12, _), (13, _), (62, _), (61, _), (60, _), (3, _), (2, _)]) (.o4 R (.o4 R (.nil _))) <| qq ?_
      refine qZ h R (fun hb258 h => ?_) (fun hb258 h => ?_)
      ·refine sr <| mv R R <| av R R <| ak R <| qx <| qw (env' := [(5, _), (4, _)]) (.o2 R (.nil _)) <| qq <| vq <| qQ <| vz <| qQ <| qQ ?_
       refine vz <| qQ ?_
       cases h
       exact QR.f2 R R (.t R) (.t R) (.id _)
      ·refine qB <| qq <| qX <| W.drawK [(0, false), (1, false), (2, false), (3, false), (4, false), (5, false), (6, false), (7, false), (8, false), (9, false), (10, false), (11, false), (12, false), (13, false), (14, false), (15, false), (16, false), (17, false), (18, false)] [] (bm [0, 0, 2, 0, 8, 24, 0, 64, 248, 504, 0, 1024, 3072, 0, 8192, 31744, 64512, 131071, 262143]) mx (by kernel_rfl) <| qz R R (.p R (.s 2 R .nil) R (q_loadS R sh35 (leB R) R)) <| df R R R fo109_0 R <| dl R R R sh3 <| df R R R fo60_0 R <| df R R R fo38_0 R <| dl R R R sh26 <| df R R R fo109_1 R <| dl R R R sh3 ?_
       obtain ⟨c265, h⟩ := qK h
       refine qz R R (.p R (.s 79 R (.s 81 R .nil)) R (vX R el26 R c265.1 c265.2)) <| dl R R R sh3 <| df R R R fo60_0 R <| df R R R fo38_0 R <| dl R R R sh26 <| df R R R fo109_2 R <| dl R R R sh3 ?_
       obtain ⟨c266, h⟩ := qK h
       refine qz R R (.p R (.s 86 R (.s 88 R .nil)) R (vX R el26 R c266.1 c266.2)) <| dl R R R sh3 ?_
       obtain ⟨t267, ht267, h⟩ := vw h
       refine qz R R (.p R (.s 74 R (.s 76 R (.s 83 R (.s 90 R .nil)))) R (vy (f := 157) (A := bA t267) (xs := [.tmp 74, .tmp 76, .tmp 83, .tmp 90]) («as» := [AggA [SlcA kNodeType a0.fNodes, SlcA kEdgeType a0.fEdges], iA ((rd a1.fGraph.fEdges x62).fType), iA (rd a1.fGraph.fNodes ((rd a1.fGraph.fEdges x62).fFrom)), iA (rd a1.fGraph.fNodes ((rd a1.fGraph.fEdges x62).fTo))]) R ca157 (types_Fits.con k a0 ((rd a1.fGraph.fEdges x62).fType) (rd a1.fGraph.fNodes ((rd a1.fGraph.fEdges x62).fFrom)) (rd a1.fGraph.fNodes ((rd a1.fGraph.fEdges x62).fTo)) t267 ht267) R)) <| qz R R (.p R (.s 91 R .nil) R (q_not R)) <| DK.nil <| CSteps.nil <| qw (env' := [(92, _), (12, _), (62, _), (61, _), (60, _), (3, _), (2, _)]) (.o4 R (.o2 R (.one R (.nil _)))) <| qq ?_
       refine qZ h R (fun hb268 h => ?_) (fun hb268 h => ?_)
       ·refine sr <| mv R R <| av R R <| ak R <| qx <| qw (env' := [(5, _), (4, _)]) (.o2 R (.nil _)) <| qq <| vq <| vz <| qQ <| qQ <| vz ?_
        refine qQ ?_
        cases h
        exact QR.f2 R R (.t R) (.t R) (.id _)
       ·refine qB <| vZ <| qq <| qJ ?_
        obtain ⟨c269, h⟩ := qK h
        refine pk R 62 R (vK R c269) <| mv R R <| qx ?_
        exact next1 () (x62 + 1) _ h (.o4 R (.one R (.nil _)))
     ·refine W.exit <| qV <| qV <| vB <| qq <| sr <| ak R <| ak R <| nt <| vq ?_
      cases h
      exact QR.f2 R R (.t R) (.t R) (.id _)
theorem attribute_given.con (k : Nat) (a0 : Types) (a1 : Pattern) (a2 : Host) (r : Int) (h : attribute_given k a0 a1 a2 = some r) : Con Tryz.prog 72 [] [AggA [SlcA kNodeType a0.fNodes, SlcA kEdgeType a0.fEdges], AggA [SlcA kInt a1.fGraph.fNodes, SlcA kEdge a1.fGraph.fEdges, SlcA kSlot a1.fSlots, iA a1.fVars, SlcA kTest a1.fTests], AggA [SlcA kInt a2.fGraph.fNodes, SlcA kEdge a2.fGraph.fEdges, SlcA (kSl kInt) a2.fValues]] (RA (iA r)) := by
 unfold attribute_given at h
 refine vJ (N := 23) Tryz.func72 R R R fun w0_ fg_ => sr <| p1 R 0 R (q_box R (qy _)) <| p1 R 1 R (q_box R (qy _)) <| p1 R 2 R (q_box R (qy _)) <| ak R <| nt <| qX <| sr <| lS R R sh35 R R ?_
 refine lS R R sh42 R R ?_
 obtain ⟨t100, ht100, h⟩ := vw h
 refine p2 R 10 R 11 R (vy (f := 18) (A := iA t100) (xs := [.tmp 10, .tmp 11]) («as» := [AggA [SlcA kNodeType a0.fNodes, SlcA kEdgeType a0.fEdges], AggA [SlcA kInt a1.fGraph.fNodes, SlcA kEdge a1.fGraph.fEdges, SlcA kSlot a1.fSlots, iA a1.fVars, SlcA kTest a1.fTests]]) R ca18 (attribute_Valid.con k a0 a1 t100 ht100) R) <| av R R <| qx <| qw (env' := [(7, _), (5, _), (3, _)]) (.o2 R (.one R (.nil _))) <| qq <| sr <| mv R R <| pk R 13 R (qN R R) <| nt ?_
 refine qZ h R (fun hb101 h => ?_) (fun hb101 h => ?_)
 ·refine sr <| mv R R <| av R R <| nt <| vq <| qQ ?_
  cases h
  exact vW R R (.t R) (.id _)
 ·refine qB <| qq <| sr <| lS R R sh35 R R <| lS R R sh60 R R ?_
  obtain ⟨t102, ht102, h⟩ := vw h
  refine p2 R 17 R 18 R (vy (f := 118) (A := TupA [iA t102.1, iA t102.2]) (xs := [.tmp 17, .tmp 18]) («as» := [AggA [SlcA kNodeType a0.fNodes, SlcA kEdgeType a0.fEdges], AggA [SlcA kInt a2.fGraph.fNodes, SlcA kEdge a2.fGraph.fEdges, SlcA (kSl kInt) a2.fValues]]) R ca118 (host_Valid.con k a0 a2 t102 ht102) R) <| mv R R <| p1 R 16 R (vV R R) <| p1 R 16 R (vV R R) <| av R R <| av R R <| qx <| qw (env' := [(9, _)]) (.one R (.nil _)) <| qq <| sr <| mv R R <| av R R ?_
  refine nt <| vq ?_
  cases h
  exact vW R R (.t R) (.id _)
theorem search_within_1.con (k : Nat) (a0 : Int) (a1 : Types) (r : Bool) (h : search_within_1 k a0 a1 = some r) : Con Tryz.prog 183 [] [iA a0, PtrA [SlcA kNodeType a1.fNodes, SlcA kEdgeType a1.fEdges]] (RA (bA r)) := by
 unfold search_within_1 at h
 refine vJ (N := 9) Tryz.func183 R R R fun w0_ fg_ => sr <| ak R <| nx <| mv R R <| fd R R fo35_0 R <| ld R R sh32 <| p1 R 6 R (vN R elS32) <| p2 R 4 R 7 R (qN R R) ?_
 refine av R R <| qx <| qw (env' := [(3, _)]) (.one R (.nil _)) <| qq <| vq ?_
 cases h
 exact vW R R (.t R) (.id _)
theorem search_within_2.con (k : Nat) (a0 : Edge) (a1 : Types) (r : Bool) (h : search_within_2 k a0 a1 = some r) : Con Tryz.prog 184 [] [AggA [iA a0.fType, iA a0.fFrom, iA a0.fTo], PtrA [SlcA kNodeType a1.fNodes, SlcA kEdgeType a1.fEdges]] (RA (bA r)) := by
 unfold search_within_2 at h
 refine vJ (N := 10) Tryz.func184 R R R fun w0_ fg_ => sr <| p1 R 0 R (q_box R (qy _)) <| ak R <| nx <| fd R R fo109_0 R <| ld R R sh3 <| fd R R fo35_1 R <| ld R R sh33 ?_
 refine p1 R 7 R (vN R elS33) <| p2 R 5 R 8 R (qN R R) <| av R R <| qx <| qw (env' := [(3, _)]) (.one R (.nil _)) <| qq <| vq ?_
 cases h
 exact vW R R (.t R) (.id _)
theorem search_within.con (k : Nat) (a0 : Types) (a1 : Graph) (r : Bool) (h : search_within k a0 a1 = some r) : Con Tryz.prog 158 [] [AggA [SlcA kNodeType a0.fNodes, SlcA kEdgeType a0.fEdges], AggA [SlcA kInt a1.fNodes, SlcA kEdge a1.fEdges]] (RA (bA r)) := by
 unfold search_within at h
 refine vJ (N := 17) Tryz.func158 R R R fun w0_ fg_ => sr <| p1 R 0 R (q_box R (qy _)) <| p1 R 1 R (q_box R (qy _)) <| ak R <| nt <| qX ?_
 refine W.jn1 (Γ := Unit) (fun (_ : Unit) (x4 : Bool) => [(4, bA x4)]) (fun (_ : Unit) (_ : Bool) => []) h (fun _ x4 h => ?_) (fun j104 Kj104 h => ?_)
 ·refine qq <| vq ?_
  cases h
  exact vW R R (.t R) (.id _)
 ·refine qJ <| fd R R fo38_0 R <| ld R R sh26 <| p1 R 2 R (q_makeFunc (xs := [.tmp 2]) (L := [PtrA [SlcA kNodeType a0.fNodes, SlcA kEdgeType a0.fEdges]]) («as» := (fun (x : Int) => [iA x])) (res := (fun (y : Bool) => bA y)) (p := (fun x => search_within_1 k x a0)) R ca183 R (fun x y hp => (search_within_1.con k x a0 y hp))) ?_
  obtain ⟨t105, ht105, h⟩ := vw h
  refine p2 R 6 R 7 R (vy (f := 51) (A := bA t105) (xs := [.tmp 6, .tmp 7]) («as» := [SlcA kInt a1.fNodes, FnA Tryz.prog (fun (x : Int) => [iA x]) (fun (y : Bool) => bA y) (fun x => search_within_1 k x a0)]) R ca51 (slices_ContainsFunc_int.con k a1.fNodes (fun x => search_within_1 k x a0) t105 ht105) R) <| p1 R 8 R (q_not R) <| mv R R ?_
  rcases bif_s h with ⟨hb106, h⟩ | ⟨hb106, h⟩
  ·refine wf R R R hb106 R R fo38_1 R <| wl R R R hb106 R R sh36 <| wq R R R hb106 (.s 2 R .nil) (q_makeFunc (xs := [.tmp 2]) (L := [PtrA [SlcA kNodeType a0.fNodes, SlcA kEdgeType a0.fEdges]]) («as» := (fun (x : Edge) => [AggA [iA x.fType, iA x.fFrom, iA x.fTo]])) (res := (fun (y : Bool) => bA y)) (p := (fun x => search_within_2 k x a0)) R ca184 R (fun x y hp => (search_within_2.con k x a0 y hp))).o ?_
   obtain ⟨t107, ht107, h⟩ := vw h
   refine wq R R R hb106 (.s 12 R (.s 13 R .nil)) (vy (f := 53) (A := bA t107) (xs := [.tmp 12, .tmp 13]) («as» := [SlcA kEdge a1.fEdges, FnA Tryz.prog (fun (x : Edge) => [AggA [iA x.fType, iA x.fFrom, iA x.fTo]]) (fun (y : Bool) => bA y) (fun x => search_within_2 k x a0)]) R ca53 (slices_ContainsFunc_Edge.con k a1.fEdges (fun x => search_within_2 k x a0) t107 ht107) R).o <| wq R R R hb106 (.s 14 R .nil) (q_not R).o <| p2 R 10 R 15 R (vQ R hb106) <| av R R <| qx ?_
   exact qw (.one R (.nil _)) (Kj104 () (!t107) h)
  ·refine sk R R R hb106 <| sk R R R hb106 <| sk R R R hb106 <| sk R R R hb106 <| sk R R R hb106 <| pk R 10 R (vj R hb106) <| av R R <| qx ?_
   exact qw (.one R (.nil _)) (Kj104 () false h)
theorem search_valid.con (k : Nat) (a0 : Types) (a1 : Graph) (a2 : Graph) (r : Int) (h : search_valid k a0 a1 a2 = some r) : Con Tryz.prog 119 [] [AggA [SlcA kNodeType a0.fNodes, SlcA kEdgeType a0.fEdges], AggA [SlcA kInt a1.fNodes, SlcA kEdge a1.fEdges], AggA [SlcA kInt a2.fNodes, SlcA kEdge a2.fEdges]] (RA (iA r)) := by
 unfold search_valid at h
 refine vJ (N := 44) Tryz.func119 R R R fun w0_ fg_ => sr <| p1 R 0 R (q_box R (qy _)) <| p1 R 1 R (q_box R (qy _)) <| p1 R 2 R (q_box R (qy _)) <| ak R <| nt <| qX <| sr <| lS R R sh35 R R ?_
 obtain ⟨t100, ht100, h⟩ := vw h
 refine p1 R 13 R (vy (f := 49) (A := TupA [EqA (strV t100.1), iA t100.2]) (xs := [.tmp 13]) («as» := [AggA [SlcA kNodeType a0.fNodes, SlcA kEdgeType a0.fEdges]]) R ca49 (types_Valid.con k a0 t100 ht100) R) <| mv R R <| p1 R 12 R (vV R R) <| p1 R 12 R (vV R R) <| av R R <| av R R <| qx <| qw (env' := [(8, _), (5, _), (4, _), (3, _)]) (.o4 R (.nil _)) <| qq <| sr <| mv R R <| pk R 17 R (qN R R) ?_
 refine nt ?_
 refine qZ h R (fun hb101 h => ?_) (fun hb101 h => ?_)
 ·refine sr <| mv R R <| av R R <| qx <| qw (env' := [(6, _)]) (.one R (.nil _)) <| qq <| vq <| qQ ?_
  cases h
  exact vW R R (.t R) (.id _)
 ·refine qB <| qq <| qX <| sr <| lS R R sh38 R R <| lS R R sh38 R R <| p2 R 20 R 21 R (q_lit (kd := kGraph) (ps := [(0, .tmp 20), (1, .tmp 21)]) (xs := [.tmp 20, .tmp 21]) («as» := [AggA [SlcA kInt a1.fNodes, SlcA kEdge a1.fEdges], AggA [SlcA kInt a2.fNodes, SlcA kEdge a2.fEdges]]) (ys := [a1, a2]) R R el199 R gr38 R R R (.cons (qy _) (.cons (qy _) .nil))) <| p1 R 22 R (vN R elS199) <| mk_ R <| nt <| vx ?_
  refine W.loop1 (Γ := Unit) (fun (_ : Unit) (x24 : Int) => [(3, PtrA [SlcA kNodeType a0.fNodes, SlcA kEdgeType a0.fEdges]), (4, PtrA [SlcA kInt a1.fNodes, SlcA kEdge a1.fEdges]), (5, PtrA [SlcA kInt a2.fNodes, SlcA kEdge a2.fEdges]), (22, SlcA kGraph [a1, a2]), (23, iA ([a1, a2].length : Int)), (24, iA x24)]) (fun (_ : Unit) (_ : Int) => []) h () (.o4 R (.o2 R (.nil _))) R (fun rec0 K0 next0 _ x24 h => ?_)
  unfold search_valid.b0 at h
  refine sr <| p2 R 24 R 23 R (qN R R) <| nt <| qX ?_
  refine qZ h R (fun hb132 h => ?_) (fun hb132 h => ?_)
  ·refine qB <| qq <| qX <| vx <| sr ?_
   obtain ⟨c133, h⟩ := qK h
   refine p2 R 22 R 24 R (vX R el199 R c133.1 c133.2) <| lS R R sh38 R R <| WL.w [] R (qj R) R R .nil (w_alloc R z38 (l := [EqA (.slice none 0 0), EqA (.slice none 0 0)]) R) ?_
   rintro _ _ ⟨b134, rfl, rfl⟩
   refine WL.w0 [0] R (qj R) R (.s 10 R (.s 27 R .nil)) (w_store (L := [SlcA kInt ((rd [a1, a2] x24).fNodes), SlcA kEdge ((rd [a1, a2] x24).fEdges)]) R sh38 (qy _) R R (leB R) R) ?_
   rintro _ _ ⟨rfl, rfl⟩
   refine qx <| QN.to (StTo.still [0] 10 R R) <| qq <| sr <| lS R R sh38 R R ?_
   obtain ⟨t135, ht135, h⟩ := vw h
   refine p1 R 28 R (vy (f := 50) (A := iA t135) (xs := [.tmp 28]) («as» := [AggA [SlcA kInt ((rd [a1, a2] x24).fNodes), SlcA kEdge ((rd [a1, a2] x24).fEdges)]]) R ca50 (graph_Valid.con k (rd [a1, a2] x24) t135 ht135) R) <| av R R <| nx <| mv R R <| pk R 30 R (qN R R) <| qx <| qw (env' := [(31, _), (11, _), (24, _), (23, _), (22, _), (5, _), (4, _), (3, _)]) (.o4 R (.o4 R (.nil _))) <| qq ?_
   refine qZ h R (fun hb136 h => ?_) (fun hb136 h => ?_)
   ·refine sr <| mv R R <| av R R <| qx <| qw (env' := [(6, _)]) (.one R (.nil _)) <| qq <| vq <| vz <| qQ <| qQ <| vz <| qQ ?_
    cases h
    exact vW R R (.t R) (.id _)
   ·refine qB <| vZ <| qq <| qJ ?_
    obtain ⟨c137, h⟩ := qK h
    refine pk R 24 R (vK R c137) <| mv R R <| qx ?_
    exact next0 () (x24 + 1) _ h (.o4 R (.o2 R (.nil _)))
  ·refine W.exit <| qV <| qV <| vB <| qq <| qX <| qX ?_
   refine W.jn1 (Γ := Unit) (fun (_ : Unit) (x43 : Bool) => [(43, bA x43)]) (fun (_ : Unit) (_ : Bool) => []) h (fun _ x43 h => ?_) (fun j142 Kj142 h => ?_)
   ·refine qq ?_
    refine qZ h R (fun hb143 h => ?_) (fun hb143 h => ?_)
    ·refine sr <| ak R <| nt <| vq <| qQ ?_
     cases h
     exact vW R R (.t R) (.id _)
    ·refine qB <| qq <| sr <| ak R <| nt <| vq ?_
     cases h
     exact vW R R (.t R) (.id _)
   ·refine qJ <| lS R R sh35 R R <| lS R R sh38 R R ?_
    obtain ⟨t144, ht144, h⟩ := vw h
    refine p2 R 34 R 35 R (vy (f := 158) (A := bA t144) (xs := [.tmp 34, .tmp 35]) («as» := [AggA [SlcA kNodeType a0.fNodes, SlcA kEdgeType a0.fEdges], AggA [SlcA kInt a1.fNodes, SlcA kEdge a1.fEdges]]) R ca158 (search_within.con k a0 a1 t144 ht144) R) <| p1 R 36 R (q_not R) <| mv R R ?_
    rcases bif_s h with ⟨hb145, h⟩ | ⟨hb145, h⟩
    ·refine sk R R R hb145 <| sk R R R hb145 <| sk R R R hb145 <| sk R R R hb145 <| pk R 38 R (vQ R hb145) <| qx ?_
     exact qw (.one R (.nil _)) (Kj142 () true h)
    ·refine wq R R R hb145 (.s 3 R .nil) (q_loadS R sh35 (leB R) R).o <| wq R R R hb145 (.s 5 R .nil) (q_loadS R sh38 (leB R) R).o ?_
     obtain ⟨t146, ht146, h⟩ := vw h
     refine wq R R R hb145 (.s 39 R (.s 40 R .nil)) (vy (f := 158) (A := bA t146) (xs := [.tmp 39, .tmp 40]) («as» := [AggA [SlcA kNodeType a0.fNodes, SlcA kEdgeType a0.fEdges], AggA [SlcA kInt a2.fNodes, SlcA kEdge a2.fEdges]]) R ca158 (search_within.con k a0 a2 t146 ht146) R).o <| wq R R R hb145 (.s 41 R .nil) (q_not R).o <| p2 R 38 R 42 R (vj R hb145) <| qx ?_
     exact qw (.one R (.nil _)) (Kj142 () (!t146) h)
theorem types_Below.con (k : Nat) (a0 : Types) (a1 : Int) (r : ((List Int) × Int)) (h : types_Below k a0 a1 = some r) : Con Tryz.prog 128 [] [AggA [SlcA kNodeType a0.fNodes, SlcA kEdgeType a0.fEdges], iA a1] (RA (TupA [SlcA kInt r.1, iA r.2])) := by
 unfold types_Below at h
 refine vJ (N := 32) Tryz.func128 R R R fun w0_ fg_ => sr <| p1 R 0 R (q_box R (qy _)) <| ak R <| ak R <| nt <| qX <| sr <| lS R R sh35 R R <| mv R R ?_
 refine p1 R 10 R (q_lit (kd := kInt) (ps := [(0, .tmp 10)]) (xs := [.tmp 10]) («as» := [iA a1]) (ys := [a1]) R R el26 R gr3 R R R (.cons (qW R) .nil)) ?_
 obtain ⟨t100, ht100, h⟩ := vw h
 refine p2 R 9 R 11 R (vy (f := 133) (A := iA t100) (xs := [.tmp 9, .tmp 11]) («as» := [AggA [SlcA kNodeType a0.fNodes, SlcA kEdgeType a0.fEdges], SlcA kInt [a1]]) R ca133 (types_given.con k a0 [a1] t100 ht100) R) <| av R R <| qx <| qw (env' := [(6, _), (2, _), (1, _)]) (.o2 R (.one R (.nil _))) <| qq <| sr <| mv R R <| pk R 13 R (qN R R) <| nt ?_
 refine qZ h R (fun hb101 h => ?_) (fun hb101 h => ?_)
 ·refine sr <| mv R R <| ak R <| av R R <| nt <| vq <| qQ ?_
  cases h
  exact QR.f2 R R (.t R) (.t R) (.imp (Imp.tup (.cons (Imp.nil kInt) (.cons (Imp.id _) .nil))))
 ·refine qB <| qq <| sr <| ak R <| nt <| qX <| sr <| fd R R fo35_0 R <| ld R R sh32 <| p1 R 17 R (vN R elS32) ?_
  refine mk_ R <| nt <| vx <| W.to (StTo.newNil 3 kInt) <| W.to (StTo.as 7 R Imp.nilHd) ?_
  refine W.loop2 (Γ := Value) (fun (g0 : Value) (_ : (List Int)) (x19 : Int) => [(1, iA a1), (2, PtrA [SlcA kNodeType a0.fNodes, SlcA kEdgeType a0.fEdges]), (7, HdA g0), (18, iA (a0.fNodes.length : Int)), (19, iA x19)]) (fun (g0 : Value) (x7 : (List Int)) (_ : Int) => [SlE 3 g0 kInt x7]) h (.slice none 0 0) (.o4 R (.one R (.nil _))) R (fun rec0 K0 next0 g0 x7 x19 h => ?_)
  unfold types_Below.b0 at h
  refine sr <| p2 R 19 R 18 R (qN R R) <| nt <| qX ?_
  refine qZ h R (fun hb130 h => ?_) (fun hb130 h => ?_)
  ·refine qB <| qq <| qX <| vx <| sr <| mv R R <| av R R <| nx <| lS R R sh35 R R ?_
   refine mv R R <| mv R R ?_
   obtain ⟨t131, ht131, h⟩ := vw h
   refine WL.p R R R (.s 22 R (.s 23 R (.s 24 R .nil))) (vy (f := 172) (A := bA t131) (xs := [.tmp 22, .tmp 23, .tmp 24]) («as» := [AggA [SlcA kNodeType a0.fNodes, SlcA kEdgeType a0.fEdges], iA x19, iA a1]) R ca172 (types_is.con k a0 x19 a1 t131 ht131) R) <| nt ?_
   refine qZ h R (fun hb135 h => ?_) (fun hb135 h => ?_)
   ·refine qJ <| mv R R <| mv R R <| p1 R 27 R (q_lit (kd := kInt) (ps := [(0, .tmp 27)]) (xs := [.tmp 27]) («as» := [iA x19]) (ys := [x19]) R R el26 R gr3 R R R (.cons (qW R) .nil)) ?_
    obtain ⟨c136, h⟩ := qK h
    refine WL.w [0] R (qj R) R R (.s 26 R (.s 28 R .nil)) (w_append (kd := kInt) R el26 R gr3 c136) ?_
    rintro _ _ ⟨v137, rfl, rfl⟩
    refine av R R <| qx <| vZ <| qw (env' := [(7, _), (19, _), (18, _), (2, _), (1, _)]) (.o4 R (.one R (.nil _))) <| qq <| qJ ?_
    obtain ⟨c138, h⟩ := qK h
    refine pk R 19 R (vK R c138) <| mv R R <| qx ?_
    exact next0 v137 (x7 ++ [x19]) (x19 + 1) _ h (.o4 R (.one R (.nil _)))
   ·refine qB <| vZ <| qw (env' := [(19, _), (18, _), (7, _), (2, _), (1, _)]) (.o4 R (.one R (.nil _))) <| qq <| qJ ?_
    obtain ⟨c139, h⟩ := qK h
    refine pk R 19 R (vK R c139) <| mv R R <| qx ?_
    exact next0 g0 x7 (x19 + 1) _ h (.o4 R (.one R (.nil _)))
  ·refine W.exit <| qV <| qV <| vB <| qq <| sr <| mv R R <| av R R <| ak R <| qx <| qw (env' := [(5, _), (4, _)]) (.o2 R (.nil _)) <| qq ?_
   refine vq ?_
   cases h
   exact QR.f2 R R (.t R) (.t R) (.tup (.cons (.slc 0 R) (.cons (.id _) .nil)))
theorem search_below.con (k : Nat) (a0 : Types) (r : (List (List Bool))) (h : search_below k a0 = some r) : Con Tryz.prog 159 [] [AggA [SlcA kNodeType a0.fNodes, SlcA kEdgeType a0.fEdges]] (RA (SlcA (kSl kBool) r)) := by
 unfold search_below at h
 refine vJ (N := 42) Tryz.func159 R R R fun w0_ fg_ => sr <| p1 R 0 R (q_box R (qy _)) <| ak R <| nx <| ak R <| nt <| qX ?_
 refine sr <| fd R R fo35_0 R <| ld R R sh32 <| p1 R 11 R (vN R elS32) <| mk_ R <| nt <| vx <| W.to (StTo.newNil 111 (kSl kBool)) <| W.to (StTo.as 3 R Imp.nilHd) ?_
 refine W.loop2 (Γ := Value) (fun (g0 : Value) (_ : (List (List Bool))) (x13 : Int) => [(1, PtrA [SlcA kNodeType a0.fNodes, SlcA kEdgeType a0.fEdges]), (3, HdA g0), (12, iA (a0.fNodes.length : Int)), (13, iA x13)]) (fun (g0 : Value) (x3 : (List (List Bool))) (_ : Int) => [SlE 111 g0 (kSl kBool) x3]) h (.slice none 0 0) (.o4 R (.nil _)) R (fun rec0 K0 next0 g0 x3 x13 h => ?_)
 unfold search_below.b0 at h
 refine sr <| p2 R 13 R 12 R (qN R R) <| nt <| qX ?_
 refine qZ h R (fun hb157 h => ?_) (fun hb157 h => ?_)
 ·refine qB <| qq <| qX <| vx <| sr <| mv R R <| av R R <| nx <| fd R R fo35_0 R ?_
  refine ld R R sh32 <| p1 R 17 R (vN R elS32) ?_
  obtain ⟨c158, h⟩ := qK h
  refine WL.w [] R (qj R) R R (.s 18 R (.s 18 R .nil)) (w_make (kd := kBool) (z := false) R el111 R gr4 z4 R c158.1 c158.2) ?_
  rintro _ _ ⟨v159, rfl, rfl⟩
  refine av R R <| nx <| lS R R sh35 R R <| mv R R ?_
  obtain ⟨t160, ht160, h⟩ := vw h
  refine p2 R 21 R 22 R (vy (f := 128) (A := TupA [SlcA kInt t160.1, iA t160.2]) (xs := [.tmp 21, .tmp 22]) («as» := [AggA [SlcA kNodeType a0.fNodes, SlcA kEdgeType a0.fEdges], iA x13]) R ca128 (types_Below.con k a0 x13 t160 ht160) R) <| mv R R <| p1 R 20 R (vV R R) <| p1 R 20 R (vV R R) <| av R R <| av R R <| qx <| qw (env' := [(6, _), (5, _), (13, _), (12, _), (3, _), (1, _)]) (.o4 R (.o2 R (.nil _))) <| qq <| qX <| sr <| mv R R ?_
  refine p1 R 26 R (vN R elS26) <| mk_ R <| nt <| vx <| W.order [1, 0] R ?_
  refine W.loop2 (Γ := Unit) (fun (_ : Unit) (_ : (List Bool)) (x28 : Int) => [(1, PtrA [SlcA kNodeType a0.fNodes, SlcA kEdgeType a0.fEdges]), (3, HdA g0), (12, iA (a0.fNodes.length : Int)), (13, iA x13), (5, HdA v159), (26, SlcA kInt t160.1), (27, iA (t160.1.length : Int)), (28, iA x28)]) (fun (_ : Unit) (x5 : (List Bool)) (_ : Int) => [SlE 111 g0 (kSl kBool) x3, SlE 4 v159 kBool x5]) h () (.o4 R (.o4 R (.nil _))) R (fun rec1 K1 next1 _ x5 x28 h => ?_)
  unfold search_below.b1 at h
  refine sr <| p2 R 28 R 27 R (qN R R) <| nt <| qX ?_
  refine qZ h R (fun hb175 h => ?_) (fun hb175 h => ?_)
  ·refine qB <| qq <| qX <| vx <| sr ?_
   obtain ⟨c176, h⟩ := qK h
   refine p2 R 26 R 28 R (vX R el26 R c176.1 c176.2) <| ld R R sh3 <| av R R <| nt <| qJ <| mv R R <| mv R R ?_
   obtain ⟨c177, h⟩ := qK h
   refine WL.q (qj R) R R (.s 32 R (.s 33 R .nil)) (q_indexO R el111 (j := 1) R c177.1 c177.2) <| WL.w0 [1] R (qj R) R (.s 34 R (.k .nil)) (w_storeEl (kd := kBool) (z := true) R sh4 (qW R) R R R c177.1 c177.2 R R) ?_
   rintro _ _ ⟨rfl, rfl⟩
   refine qx <| vZ <| qw (env' := [(28, _), (27, _), (26, _), (5, _), (13, _), (12, _), (3, _), (1, _)]) (.o4 R (.o4 R (.nil _))) <| qq <| qJ ?_
   obtain ⟨c178, h⟩ := qK h
   refine pk R 28 R (vK R c178) <| mv R R <| qx <| QN.order [1, 0] R ?_
   exact next1 () (x5.set ((rd t160.1 x28) : Int).toNat true) (x28 + 1) _ h (.o4 R (.o4 R (.nil _)))
  ·refine W.exit <| qV <| qV <| vB <| qq <| qJ <| mv R R <| mv R R <| WL.to (StTo.freeze [1] 37 R R) <| p1 R 37 R (q_lit (kd := (kSl kBool)) (ps := [(0, .tmp 37)]) (xs := [.tmp 37]) («as» := [SlcA kBool x5]) (ys := [x5]) R R el200 R gr111 R R R (.cons (qW R) .nil)) ?_
   obtain ⟨c179, h⟩ := qK h
   refine WL.w [0] R (qj R) R R (.s 36 R (.s 38 R .nil)) (w_append (kd := (kSl kBool)) R el200 R gr111 c179) ?_
   rintro _ _ ⟨v180, rfl, rfl⟩
   refine av R R <| qx <| vZ <| qw (env' := [(3, _), (13, _), (12, _), (1, _)]) (.o4 R (.nil _)) <| qq <| qJ ?_
   obtain ⟨c181, h⟩ := qK h
   refine pk R 13 R (vK R c181) <| mv R R <| qx ?_
   exact next0 v180 (x3 ++ [x5]) (x13 + 1) _ h (.o4 R (.nil _))
 ·refine W.exit <| qV <| qV <| vB <| qq <| sr <| mv R R <| av R R <| nt <| vq ?_
  cases h
  exact vW R R (.t R) (.slc 0 R)
theorem search_given.con (k : Nat) (a0 : (Option (List Int))) (a1 : Int) (r : Int) (h : search_given k a0 a1 = some r) : Con Tryz.prog 207 [] [OptA kInt a0, iA a1] (RA (iA r)) := by
  cases a0 with
  | none =>
    have hr : -1 = r := some_s h
    subst hr
    refine vJ (N := 11) Tryz.func207 R R R fun w0_ fg_ => ?_
    refine qX (qJ (ak R (qx (qq ?_))))
    refine qX (qX (qJ (mv R R (p1 R 5 R (QS.need (q_nilNil R elS26) (Imp.ofN kInt)) (qx (qq ?_))))))
    refine W.condT R R ?_
    refine qX (qJ (ak R (qx (qq ?_))))
    exact vq (qQ (vW R R (.t R) (.id _)))
  | some l =>
    obtain ⟨hc, h⟩ := qK h
    cases h
    refine vJ (N := 11) Tryz.func207 R R R fun w0_ fg_ => ?_
    refine qX (qJ (ak R (qx (qq ?_))))
    refine qX (qX (qJ (mv R R (p1 R 5 R (QS.need (q_nilEq (kd := kInt) (xs := l) R elS26 (by rintro rfl; simp at hc; omega) rfl) (Imp.ofS kInt l)) (WL.nil (QN.then_ ?_))))))
    refine W.condF R R (qB (qq ?_))
    refine qX (qJ ?_)
    refine mv R R ?_
    refine mv R R ?_
    refine p2 R 7 R 8 R (QS.need (vX (kd := kInt) (xs := l) R el26 R hc.1 hc.2) (Imp.ofS kInt l)) ?_
    refine ld R R sh3 ?_
    refine av R R ?_
    refine qx (qq ?_)
    exact vq (vW R R (.t R) (.id _))
theorem search_finder_fits.con (k : Nat) (a0 : Finder) (a1 : Int) (a2 : Int) (r : Bool) (h : search_finder_fits k a0 a1 a2 = some r) : Con Tryz.prog 209 [] [PtrA [SlcA kInt a0.fp.fNodes, SlcA kEdge a0.fp.fEdges, SlcA kInt a0.fg.fNodes, SlcA kEdge a0.fg.fEdges, SlcA (kSl kBool) a0.fis, OptA kInt a0.fpartial.fNodes, OptA kInt a0.fpartial.fEdges, bA a0.finjective, iA a0.fmost, SlcA kInt a0.fnodes, SlcA kInt a0.fedges, SlcA kMorphism a0.fout], iA a1, iA a2] (RA (bA r)) := by
 unfold search_finder_fits at h
 refine vJ (N := 59) Tryz.func209 R R R fun w0_ fg_ => sr <| ak R <| nx <| mv R R <| p1 R 9 R (q_nilCheck R) <| fd R R fo238_0 R <| fd R R fo38_1 R <| ld R R sh36 ?_
 refine mv R R ?_
 obtain ⟨c100, h⟩ := qK h
 refine p2 R 13 R 14 R (vX R el36 R c100.1 c100.2) <| lS R R sh109 R R <| WL.w [] R (qj R) R R .nil (w_alloc R z109 (l := [iA 0, iA 0, iA 0]) R) ?_
 rintro _ _ ⟨b101, rfl, rfl⟩
 refine WL.w0 [0] R (qj R) R (.s 7 R (.s 16 R .nil)) (w_store (L := [iA ((rd a0.fp.fEdges a1).fType), iA ((rd a0.fp.fEdges a1).fFrom), iA ((rd a0.fp.fEdges a1).fTo)]) R sh109 (qy _) R R (leB R) R) ?_
 rintro _ _ ⟨rfl, rfl⟩
 refine qx <| QN.to (StTo.still [0] 7 R R) <| qw (env' := [(7, _), (2, _), (1, _), (0, _)]) (.o4 R (.nil _)) <| qq <| qX <| sr <| mv R R <| p1 R 17 R (q_nilCheck R) <| fd R R fo238_3 R <| fd R R fo64_1 R <| ld R R sh26 <| mv R R ?_
 obtain ⟨t102, ht102, h⟩ := vw h
 refine p2 R 21 R 22 R (vy (f := 207) (A := iA t102) (xs := [.tmp 21, .tmp 22]) («as» := [OptA kInt a0.fpartial.fEdges, iA a1]) R ca207 (search_given.con k a0.fpartial.fEdges a1 t102 ht102) R) <| av R R <| qx <| qw (env' := [(8, _), (7, _), (2, _), (0, _)]) (.o4 R (.nil _)) <| qq <| qX ?_
 refine W.jn1 (Γ := Unit) (fun (_ : Unit) (x30 : Bool) => [(0, PtrA [SlcA kInt a0.fp.fNodes, SlcA kEdge a0.fp.fEdges, SlcA kInt a0.fg.fNodes, SlcA kEdge a0.fg.fEdges, SlcA (kSl kBool) a0.fis, OptA kInt a0.fpartial.fNodes, OptA kInt a0.fpartial.fEdges, bA a0.finjective, iA a0.fmost, SlcA kInt a0.fnodes, SlcA kInt a0.fedges, SlcA kMorphism a0.fout]), (2, iA a2), (7, PtrA [iA ((rd a0.fp.fEdges a1).fType), iA ((rd a0.fp.fEdges a1).fFrom), iA ((rd a0.fp.fEdges a1).fTo)]), (30, bA x30)]) (fun (_ : Unit) (_ : Bool) => []) h (fun _ x30 h => ?_) (fun j105 Kj105 h => ?_)
 ·refine qq ?_
  refine qZ h R (fun hb106 h => ?_) (fun hb106 h => ?_)
  ·refine sr <| ak R <| nt <| vq <| qQ ?_
   cases h
   exact vW R R (.t R) (.id _)
  ·refine qB <| qq <| qX <| W.drawK [(0, false), (1, false), (2, false), (3, false), (4, false), (5, false), (6, false), (7, false), (8, false), (9, false), (10, false), (11, false), (12, false), (13, false), (14, false), (15, false), (16, false), (17, false), (18, false), (19, false), (20, false), (21, false), (22, false), (23, false), (24, false), (25, false), (26, false), (27, false), (28, false)] [] (bm [0, 1, 3, 7, 15, 0, 63, 127, 0, 256, 0, 1024, 3072, 7168, 0, 16384, 64512, 130048, 0, 262144, 786432, 1835008, 0, 4194304, 16515072, 33292288, 67108608, 134217727, 268435455]) mx (by kernel_rfl) <| dm R R R <| qz R R (.p R (.s 31 R .nil) R (q_nilCheck R)) <| df R R R fo238_1 R <| df R R R fo38_1 R <| dl R R R sh36 <| dm R R R ?_
   obtain ⟨c113, h⟩ := qK h
   refine qz R R (.p R (.s 35 R (.s 36 R .nil)) R (vX R el36 R c113.1 c113.2)) <| qz R R (.p R (.s 37 R .nil) R (q_loadS R sh109 (leB R) R)) <| df R R R fo109_0 R <| dl R R R sh3 <| dm R R R <| qz R R (.p R (.s 41 R .nil) R (q_nilCheck R)) <| df R R R fo238_6 R <| dl R R R sh26 <| df R R R fo109_1 R <| dl R R R sh3 ?_
   obtain ⟨c114, h⟩ := qK h
   refine qz R R (.p R (.s 44 R (.s 46 R .nil)) R (vX R el26 R c114.1 c114.2)) <| dl R R R sh3 <| dm R R R <| qz R R (.p R (.s 49 R .nil) R (q_nilCheck R)) <| df R R R fo238_6 R <| dl R R R sh26 <| df R R R fo109_2 R <| dl R R R sh3 ?_
   obtain ⟨c115, h⟩ := qK h
   refine qz R R (.p R (.s 52 R (.s 54 R .nil)) R (vX R el26 R c115.1 c115.2)) <| dl R R R sh3 <| qz R R (.p R (.s 40 R (.s 48 R (.s 56 R .nil))) R (q_build (is := [0, 1, 2]) (xs := [.tmp 40, .tmp 48, .tmp 56]) (L := [iA ((rd a0.fp.fEdges a1).fType), iA (rd a0.fnodes ((rd a0.fp.fEdges a1).fFrom)), iA (rd a0.fnodes ((rd a0.fp.fEdges a1).fTo))]) R R z109 pl109 R R (.cons (qW R) (.cons (qW R) (.cons (qW R) .nil))) R)) <| qz R R (.p R (.s 38 R (.s 57 R .nil)) R (q_eqI (ms := [(rd a0.fg.fEdges a2).fType, (rd a0.fg.fEdges a2).fFrom, (rd a0.fg.fEdges a2).fTo]) (ns := [(rd a0.fp.fEdges a1).fType, (rd a0.fnodes ((rd a0.fp.fEdges a1).fFrom)), (rd a0.fnodes ((rd a0.fp.fEdges a1).fTo))]) R issI_109)) <| qz R R (.p R (.s 58 R .nil) R (q_assign R)) <| DK.nil <| CSteps.nil <| qw (env' := [(6, _)]) (.one R (.nil _)) <| qq <| vq ?_
   cases h
   exact vW R R (.t R) (.id _)
 ·refine qJ <| mv R R <| pk R 24 R (qN R R) <| mv R R ?_
  rcases bif_s h with ⟨hb116, h⟩ | ⟨hb116, h⟩
  ·refine wm R R R hb116 R R <| wm R R R hb116 R R <| wq R R R hb116 (.s 27 R (.s 28 R .nil)) (qN R R).o <| p2 R 26 R 29 R (vQ R hb116) <| qx ?_
   exact qw (.o4 R (.nil _)) (Kj105 () (t102 != a2) h)
  ·refine sk R R R hb116 <| sk R R R hb116 <| sk R R R hb116 <| pk R 26 R (vj R hb116) <| qx ?_
   exact qw (.o4 R (.nil _)) (Kj105 () false h)
theorem search_finder_possible.con (k : Nat) (a0 : Finder) (r : Bool) (h : search_finder_possible k a0 = some r) : Con Tryz.prog 208 [] [PtrA [SlcA kInt a0.fp.fNodes, SlcA kEdge a0.fp.fEdges, SlcA kInt a0.fg.fNodes, SlcA kEdge a0.fg.fEdges, SlcA (kSl kBool) a0.fis, OptA kInt a0.fpartial.fNodes, OptA kInt a0.fpartial.fEdges, bA a0.finjective, iA a0.fmost, SlcA kInt a0.fnodes, SlcA kInt a0.fedges, SlcA kMorphism a0.fout]] (RA (bA r)) := by
 unfold search_finder_possible at h
 refine vJ (N := 49) Tryz.func208 R R R fun w0_ fg_ => sr <| ak R <| nx <| mv R R <| p1 R 8 R (q_nilCheck R) <| fd R R fo238_6 R <| ld R R sh26 <| p1 R 11 R (vN R elS26) ?_
 obtain ⟨c100, h⟩ := qK h
 refine pk R 12 R (q_subR R c100) <| av R R <| qx <| qw (env' := [(3, _), (0, _)]) (.o2 R (.nil _)) <| qq <| qX <| sr <| mv R R <| p1 R 14 R (q_nilCheck R) <| fd R R fo238_0 R <| fd R R fo38_1 R <| ld R R sh36 ?_
 refine p1 R 18 R (vN R elS36) <| mk_ R <| nt <| vx ?_
 refine W.loop1 (Γ := Unit) (fun (_ : Unit) (x20 : Int) => [(0, PtrA [SlcA kInt a0.fp.fNodes, SlcA kEdge a0.fp.fEdges, SlcA kInt a0.fg.fNodes, SlcA kEdge a0.fg.fEdges, SlcA (kSl kBool) a0.fis, OptA kInt a0.fpartial.fNodes, OptA kInt a0.fpartial.fEdges, bA a0.finjective, iA a0.fmost, SlcA kInt a0.fnodes, SlcA kInt a0.fedges, SlcA kMorphism a0.fout]), (3, iA ((a0.fnodes.length : Int) - 1)), (18, SlcA kEdge a0.fp.fEdges), (19, iA (a0.fp.fEdges.length : Int)), (20, iA x20)]) (fun (_ : Unit) (_ : Int) => []) h () (.o4 R (.one R (.nil _))) R (fun rec0 K0 next0 _ x20 h => ?_)
 unfold search_finder_possible.b0 at h
 refine sr <| p2 R 20 R 19 R (qN R R) <| nt <| qX ?_
 refine qZ h R (fun hb219 h => ?_) (fun hb219 h => ?_)
 ·refine qB <| qq <| qX <| vx <| sr <| mv R R ?_
  obtain ⟨c247, h⟩ := qK h
  refine p2 R 18 R 20 R (vX R el36 R c247.1 c247.2) <| lS R R sh109 R R <| WL.w [] R (qj R) R R .nil (w_alloc R z109 (l := [iA 0, iA 0, iA 0]) R) ?_
  rintro _ _ ⟨b248, rfl, rfl⟩
  refine av R R <| WL.w0 [0] R (qj R) R (.s 5 R (.s 24 R .nil)) (w_store (L := [iA ((rd a0.fp.fEdges x20).fType), iA ((rd a0.fp.fEdges x20).fFrom), iA ((rd a0.fp.fEdges x20).fTo)]) R sh109 (qy _) R R (leB R) R) ?_
  rintro _ _ ⟨rfl, rfl⟩
  refine qx <| QN.to (StTo.still [0] 5 R R) <| qq <| qX <| sr <| fd R R fo109_1 R <| ld R R sh3 <| fd R R fo109_2 R <| ld R R sh3 <| p2 R 26 R 28 R (q_max R) <| mv R R <| p2 R 29 R 30 R (qN R R) ?_
  refine qx <| qw (env' := [(31, _), (4, _), (20, _), (19, _), (18, _), (3, _), (0, _)]) (.o4 R (.o2 R (.one R (.nil _)))) <| qq ?_
  refine qZ h R (fun hb249 h => ?_) (fun hb249 h => ?_)
  ·refine W.exit <| qV <| vB <| qq <| qJ ?_
   obtain ⟨c250, h⟩ := qK h
   refine pk R 20 R (vK R c250) <| mv R R <| qx ?_
   exact next0 () (x20 + 1) _ h (.o4 R (.one R (.nil _)))
  ·refine qB <| qq <| sr <| ak R <| nt <| qX <| sr <| mv R R <| p1 R 32 R (q_nilCheck R) <| fd R R fo238_1 R ?_
   refine fd R R fo38_1 R <| ld R R sh36 <| p1 R 36 R (vN R elS36) <| mk_ R <| nt <| vx ?_
   refine W.loop1 (Γ := Unit) (fun (_ : Unit) (x38 : Int) => [(0, PtrA [SlcA kInt a0.fp.fNodes, SlcA kEdge a0.fp.fEdges, SlcA kInt a0.fg.fNodes, SlcA kEdge a0.fg.fEdges, SlcA (kSl kBool) a0.fis, OptA kInt a0.fpartial.fNodes, OptA kInt a0.fpartial.fEdges, bA a0.finjective, iA a0.fmost, SlcA kInt a0.fnodes, SlcA kInt a0.fedges, SlcA kMorphism a0.fout]), (3, iA ((a0.fnodes.length : Int) - 1)), (18, SlcA kEdge a0.fp.fEdges), (19, iA (a0.fp.fEdges.length : Int)), (20, iA x20), (4, iA x20), (6, bA false), (37, iA (a0.fg.fEdges.length : Int)), (38, iA x38)]) (fun (_ : Unit) (_ : Int) => []) h () (.o4 R (.o4 R (.one R (.nil _)))) R (fun rec1 K1 next1 _ x38 h => ?_)
   unfold search_finder_possible.b1 at h
   refine sr <| p2 R 38 R 37 R (qN R R) <| nt <| qX ?_
   refine qZ h R (fun hb273 h => ?_) (fun hb273 h => ?_)
   ·refine qB <| qq <| qX <| vx <| sr <| mv R R <| av R R <| nx <| mv R R ?_
    refine mv R R <| mv R R ?_
    obtain ⟨t274, ht274, h⟩ := vw h
    refine WL.p R R R (.s 41 R (.s 42 R (.s 43 R .nil))) (vy (f := 209) (A := bA t274) (xs := [.tmp 41, .tmp 42, .tmp 43]) («as» := [PtrA [SlcA kInt a0.fp.fNodes, SlcA kEdge a0.fp.fEdges, SlcA kInt a0.fg.fNodes, SlcA kEdge a0.fg.fEdges, SlcA (kSl kBool) a0.fis, OptA kInt a0.fpartial.fNodes, OptA kInt a0.fpartial.fEdges, bA a0.finjective, iA a0.fmost, SlcA kInt a0.fnodes, SlcA kInt a0.fedges, SlcA kMorphism a0.fout], iA x20, iA x38]) R ca209 (search_finder_fits.con k a0 x20 x38 t274 ht274) R) <| nt ?_
    refine qZ h R (fun hb275 h => ?_) (fun hb275 h => ?_)
    ·refine sr <| ak R <| qx <| qw (env' := [(6, _), (20, _), (19, _), (18, _), (3, _), (0, _)]) (.o4 R (.o2 R (.nil _))) <| qq <| W.exit <| QX.there R <| qV <| qV <| vB <| qq <| qX ?_
     refine qJ <| mv R R <| p1 R 46 R (q_not R) <| nt <| W.condF R R <| qB <| vZ <| qq <| qJ ?_
     obtain ⟨c276, h⟩ := qK h
     refine pk R 20 R (vK R c276) <| mv R R <| qx ?_
     exact next0 () (x20 + 1) _ h (.o4 R (.one R (.nil _)))
    ·refine qB <| vZ <| qw (env' := [(38, _), (37, _), (6, _), (4, _), (20, _), (19, _), (18, _), (3, _), (0, _)]) (.o4 R (.o4 R (.one R (.nil _)))) <| qq <| qJ ?_
     obtain ⟨c277, h⟩ := qK h
     refine pk R 38 R (vK R c277) <| mv R R <| qx ?_
     exact next1 () (x38 + 1) _ h (.o4 R (.o4 R (.one R (.nil _))))
   ·refine W.exit <| qV <| qV <| vB <| qq <| sr <| mv R R <| p1 R 46 R (q_not R) <| nt <| W.condT R R <| qX ?_
    refine qJ <| ak R <| qx <| qw (env' := [(2, _)]) (.one R (.nil _)) <| qq <| vq <| vz <| qQ <| qQ <| vz <| qQ ?_
    cases h
    exact vW R R (.t R) (.id _)
 ·refine W.exit <| qV <| qV <| vB <| qq <| sr <| ak R <| nt <| vq ?_
  cases h
  exact vW R R (.t R) (.id _)
theorem slices_Clone_int.conN (k : Nat) (a0 : (List Int)) (r : (List Int)) (h : slices_Clone_int k a0 = some r) : Con Tryz.prog 11 [] [SlcA kInt a0] (RApp 3 kInt r) := by
  unfold slices_Clone_int at h
  obtain ⟨hl, h⟩ := qK h
  cases h
  refine vJ (N := 8) Tryz.func11 R R R fun w0_ fg_ => ?_
  refine qX (qJ (ak R (qx (qq ?_))))
  refine qX (qX (qJ (mv R R (p1 R 3 R (q_nilAny (kd := kInt) (xs := a0) R elS26) (qx (qq ?_))))))
  refine W.condAny R (fun hp => ?_) (fun _ => ?_)
  · have hn := hp R
    subst hn
    refine qX (qJ (ak R (qx (qq ?_))))
    refine vq (qQ ?_)
    refine QR.to (StTo.newNil 3 kInt) ?_
    refine QR.to (StTo.as 2 R Imp.nilHd) ?_
    exact QR.tmp R R ⟨_, R, R⟩
  · refine qB (qq ?_)
    refine qX (qJ ?_)
    refine WL.p R R R .nil (q_lit0 R el26 gr3) ?_
    refine mv R R ?_
    refine WL.w [] R (qj R) R R (.s 5 R (.s 6 R .nil)) (w_appendZ (kd := kInt) R el26 R gr3 hl) ?_
    rintro _ _ ⟨v, rfl, rfl⟩
    refine av R R ?_
    refine qx (qq ?_)
    refine vq ?_
    exact QR.tmp R R ⟨_, R, R⟩
theorem slices_Clone_int.con (k : Nat) (a0 : (List Int)) (r : (List Int)) (h : slices_Clone_int k a0 = some r) : Con Tryz.prog 11 [] [SlcA kInt a0] (RA (SlcA kInt r)) := Con.free (slices_Clone_int.conN k a0 r h)
theorem search_finder_find.con : ∀ (k : Nat) (b : Nat) (w0 : Value) (w1 : Value) (w2 : Value) (a0 : Finder) (r : ((List Int) × (List Int) × (List Morphism))) (_ : search_finder_find k a0 = some r), Con Tryz.prog 191 [BoxE b [SlcA kInt a0.fp.fNodes, SlcA kEdge a0.fp.fEdges, SlcA kInt a0.fg.fNodes, SlcA kEdge a0.fg.fEdges, SlcA (kSl kBool) a0.fis, OptA kInt a0.fpartial.fNodes, OptA kInt a0.fpartial.fEdges, bA a0.finjective, iA a0.fmost, HdA w0, HdA w1, HdA w2], SlE 3 w0 kInt a0.fnodes, SlE 3 w1 kInt a0.fedges, SlE 64 w2 kMorphism a0.fout] [EqA (.pointer (some ⟨b, 0, none⟩))] (fun O' A => ∃ u0 u1 u2, O' = [BoxE b [SlcA kInt a0.fp.fNodes, SlcA kEdge a0.fp.fEdges, SlcA kInt a0.fg.fNodes, SlcA kEdge a0.fg.fEdges, SlcA (kSl kBool) a0.fis, OptA kInt a0.fpartial.fNodes, OptA kInt a0.fpartial.fEdges, bA a0.finjective, iA a0.fmost, HdA u0, HdA u1, HdA u2], SlE 3 u0 kInt r.1, SlE 3 u1 kInt r.2.1, SlE 64 u2 kMorphism r.2.2] ∧ A = TupA []) := by
 intro k
 induction k with
 | zero => intro b w0 w1 w2 a0 r h; cases h
 | succ k ih =>
  intro b w0 w1 w2 a0 r h
  change search_finder_find.main (search_finder_find k) k a0 = some r at h
  unfold search_finder_find.main at h
  refine vJ (N := 208) Tryz.func191 R R R fun w0_ fg_ => vx <| qX <| W.drawK [(0, false), (1, false), (2, false), (3, true), (4, true), (5, false), (6, false), (7, false), (8, true), (9, false), (10, false)] [] (bm [0, 1, 3, 7, 15, 0, 32, 96, 224, 511, 1023]) mx (by kernel_rfl) <| dm R R R <| qz R R (.p R (.s 29 R .nil) R (q_nilCheckP R)) <| qz R R (.p R (.s 30 R .nil) R (q_fieldP R fo238_8)) <| qz R R (.o R (.s 31 R .nil) R (q_loadB R sh133 (i := 0) R R)) <| qz R R (.o R (.s 32 R .nil) R (q_lenO R elS133 (i := 3) R)) <| dm R R R <| qz R R (.p R (.s 34 R .nil) R (q_nilCheckP R)) <| qz R R (.p R (.s 35 R .nil) R (q_fieldP R fo238_5)) <| qz R R (.o R (.s 36 R .nil) R (q_loadB R sh3 (i := 0) R R)) ?_
  refine qz R R (.p R (.s 33 R (.s 37 R .nil)) R (qN R R)) <| qz R R (.p R (.s 38 R .nil) R (q_assign R)) <| DK.nil <| CSteps.nil <| qw (env' := [(28, _), (0, _)]) (.o2 R (.nil _)) <| qq ?_
  refine qZ h R (fun hb1585 h => ?_) (fun hb1585 h => ?_)
  ·refine qB <| vZ ?_
   cases h
   exact QN.f0 R R ⟨w0, w1, w2, R, R⟩
  ·refine qX <| W.drawK [(0, false), (1, false), (2, false), (3, true), (4, true), (5, false), (6, false), (7, false), (8, false), (9, true), (10, false), (11, false), (12, false)] [] (bm [0, 1, 3, 7, 15, 0, 32, 96, 224, 480, 992, 2047, 4095]) mx (by kernel_rfl) <| dm R R R <| qz R R (.p R (.s 40 R .nil) R (q_nilCheckP R)) <| qz R R (.p R (.s 41 R .nil) R (q_fieldP R fo238_6)) <| qz R R (.o R (.s 42 R .nil) R (q_loadB R sh26 (i := 0) R R)) <| qz R R (.o R (.s 43 R .nil) R (q_lenO R elS26 (i := 1) R)) <| dm R R R <| qz R R (.p R (.s 45 R .nil) R (q_nilCheckP R)) <| qz R R (.p R (.s 46 R .nil) R (q_fieldP R fo238_0)) <| qz R R (.p R (.s 47 R .nil) R (q_fieldP R fo38_0)) <| qz R R (.o R (.s 48 R .nil) R (q_loadB R sh26 (i := 0) R R)) <| qz R R (.p R (.s 49 R .nil) R (vN R elS26)) ?_
   refine qz R R (.p R (.s 44 R (.s 50 R .nil)) R (qN R R)) <| qz R R (.p R (.s 51 R .nil) R (q_assign R)) <| DK.nil <| CSteps.nil <| qw (env' := [(39, _), (0, _)]) (.o2 R (.nil _)) <| qq ?_
   refine W.jn3 (Γ := (Value × Value × Value)) (fun (_ : (Value × Value × Value)) (_ : (List Int)) (_ : (List Int)) (_ : (List Morphism)) => [(0, EqA (.pointer (some ⟨b, 0, none⟩)))]) (fun (g2324 : (Value × Value × Value)) (y9 : (List Int)) (y10 : (List Int)) (y11 : (List Morphism)) => [BoxE b [SlcA kInt a0.fp.fNodes, SlcA kEdge a0.fp.fEdges, SlcA kInt a0.fg.fNodes, SlcA kEdge a0.fg.fEdges, SlcA (kSl kBool) a0.fis, OptA kInt a0.fpartial.fNodes, OptA kInt a0.fpartial.fEdges, bA a0.finjective, iA a0.fmost, HdA g2324.1, HdA g2324.2.1, HdA g2324.2.2], SlE 3 g2324.1 kInt y9, SlE 3 g2324.2.1 kInt y10, SlE 64 g2324.2.2 kMorphism y11]) h (fun g2324 y9 y10 y11 h => ?_) (fun j2331 Kj2331 h => ?_)
   ·refine vZ ?_
    cases h
    exact QN.f0 R R ⟨g2324.1, g2324.2.1, g2324.2.2, R, R⟩
   ·refine qZ h R (fun hb2332 h => ?_) (fun hb2332 h => ?_)
    ·refine sr <| mv R R <| p1 R 52 R (q_nilCheckP R) <| p1 R 53 R (q_fieldP R fo238_6) <| WL.q (qj R) R R (.s 54 R .nil) (q_loadB R sh26 (i := 0) R R) <| WL.q (qj R) R R (.s 55 R .nil) (q_lenO R elS26 (i := 1) R) <| av R R <| nx <| mv R R ?_
     refine p1 R 57 R (q_nilCheckP R) <| p1 R 58 R (q_fieldP R fo238_1) <| p1 R 59 R (q_fieldP R fo38_0) <| WL.q (qj R) R R (.s 60 R .nil) (q_loadB R sh26 (i := 0) R R) <| p1 R 61 R (vN R elS26) <| mk_ R <| qx <| qw (env' := [(63, _), (62, _), (61, _), (2, _), (0, _)]) (.o4 R (.one R (.nil _))) <| qq <| vx ?_
     refine W.loop4 (Γ := (Value × Value × Value)) (fun (_ : (Value × Value × Value)) (_ : (List Int)) (_ : (List Int)) (_ : (List Morphism)) (x63 : Int) => [(0, EqA (.pointer (some ⟨b, 0, none⟩))), (2, iA (a0.fnodes.length : Int)), (61, SlcA kInt a0.fg.fNodes), (62, iA (a0.fg.fNodes.length : Int)), (63, iA x63)]) (fun (g0 : (Value × Value × Value)) (y9 : (List Int)) (y10 : (List Int)) (y11 : (List Morphism)) (_ : Int) => [BoxE b [SlcA kInt a0.fp.fNodes, SlcA kEdge a0.fp.fEdges, SlcA kInt a0.fg.fNodes, SlcA kEdge a0.fg.fEdges, SlcA (kSl kBool) a0.fis, OptA kInt a0.fpartial.fNodes, OptA kInt a0.fpartial.fEdges, bA a0.finjective, iA a0.fmost, HdA g0.1, HdA g0.2.1, HdA g0.2.2], SlE 3 g0.1 kInt y9, SlE 3 g0.2.1 kInt y10, SlE 64 g0.2.2 kMorphism y11]) h (w0, w1, w2) (.o4 R (.one R (.nil _))) R (fun rec0 K0 next0 g0 y9 y10 y11 x63 h => ?_)
     unfold search_finder_find.b0 at h
     refine sr <| p2 R 63 R 62 R (qN R R) <| nt <| qX ?_
     refine qZ h R (fun hb2631 h => ?_) (fun hb2631 h => ?_)
     ·refine qB <| qq <| qX <| vx <| sr <| mv R R ?_
      obtain ⟨c2702, h⟩ := qK h
      refine p2 R 61 R 63 R (vX R el26 R c2702.1 c2702.2) <| ld R R sh3 <| av R R <| av R R <| nt <| qX <| sr <| mv R R <| p1 R 68 R (q_nilCheckP R) <| p1 R 69 R (q_fieldP R fo238_3) <| p1 R 70 R (q_fieldP R fo64_0) ?_
      refine WL.q (qj R) R R (.s 71 R .nil) (q_loadB R sh26 (i := 0) R R) <| mv R R ?_
      obtain ⟨t2703, ht2703, h⟩ := vw h
      refine p2 R 72 R 73 R (vy (f := 207) (A := iA t2703) (xs := [.tmp 72, .tmp 73]) («as» := [OptA kInt a0.fpartial.fNodes, iA (a0.fnodes.length : Int)]) R ca207 (search_given.con k a0.fpartial.fNodes (a0.fnodes.length : Int) t2703 ht2703) R) <| av R R <| qx <| qw (env' := [(5, _), (4, _), (3, _), (63, _), (62, _), (61, _), (2, _), (0, _)]) (.o4 R (.o4 R (.nil _))) <| qq <| qX ?_
      refine W.jn1 (Γ := Unit) (fun (_ : Unit) (x115 : Bool) => [(0, EqA (.pointer (some ⟨b, 0, none⟩))), (2, iA (a0.fnodes.length : Int)), (61, SlcA kInt a0.fg.fNodes), (62, iA (a0.fg.fNodes.length : Int)), (63, iA x63), (3, iA x63), (115, bA x115)]) (fun (_ : Unit) (_ : Bool) => [BoxE b [SlcA kInt a0.fp.fNodes, SlcA kEdge a0.fp.fEdges, SlcA kInt a0.fg.fNodes, SlcA kEdge a0.fg.fEdges, SlcA (kSl kBool) a0.fis, OptA kInt a0.fpartial.fNodes, OptA kInt a0.fpartial.fEdges, bA a0.finjective, iA a0.fmost, HdA g0.1, HdA g0.2.1, HdA g0.2.2], SlE 3 g0.1 kInt y9, SlE 3 g0.2.1 kInt y10, SlE 64 g0.2.2 kMorphism y11]) h (fun _ x115 h => ?_) (fun j2733 Kj2733 h => ?_)
      ·refine qq ?_
       refine qZ h R (fun hb2734 h => ?_) (fun hb2734 h => ?_)
       ·refine W.exit <| qV <| vB <| qq <| qJ ?_
        obtain ⟨c2735, h⟩ := qK h
        refine pk R 63 R (vK R c2735) <| mv R R <| qx ?_
        exact next0 (g0.1, g0.2.1, g0.2.2) y9 y10 y11 (x63 + 1) _ h (.o4 R (.one R (.nil _)))
       ·refine qB <| qq <| sr <| mv R R <| mv R R <| p1 R 117 R (q_nilCheckP R) <| p1 R 118 R (q_fieldP R fo238_6) <| WL.q (qj R) R R (.s 119 R .nil) (q_loadB R sh26 (i := 0) R R) <| mv R R <| p1 R 121 R (q_lit (kd := kInt) (ps := [(0, .tmp 121)]) (xs := [.tmp 121]) («as» := [iA x63]) (ys := [x63]) R R el26 R gr3 R R R (.cons (qW R) .nil)) ?_
        obtain ⟨c2736, h⟩ := qK h
        refine WL.w [1] R (qj R) R R (.s 120 R (.s 122 R .nil)) (w_append (kd := kInt) R el26 R gr3 c2736) ?_
        rintro _ _ ⟨v2737, rfl, rfl⟩
        refine p1 R 116 R (q_nilCheckP R) <| p1 R 124 R (q_fieldP R fo238_6) <| WL.w0 [1] R (qj R) R (.s 125 R (.s 123 R .nil)) (w_store (L := [SlcA kInt a0.fp.fNodes, SlcA kEdge a0.fp.fEdges, SlcA kInt a0.fg.fNodes, SlcA kEdge a0.fg.fEdges, SlcA (kSl kBool) a0.fis, OptA kInt a0.fpartial.fNodes, OptA kInt a0.fpartial.fEdges, bA a0.finjective, iA a0.fmost, HdA v2737, HdA g0.2.1, HdA g0.2.2]) R sh26 (qW R) R R (leB R) R) ?_
        rintro _ _ ⟨rfl, rfl⟩
        refine qx <| qw (env' := [(63, _), (62, _), (61, _), (2, _), (0, _)]) (.o4 R (.one R (.nil _))) <| qq <| qX <| sr <| mv R R ?_
        obtain ⟨t2738, ht2738, h⟩ := vw h
        refine WL.q (qj R) R R (.s 126 R .nil) (q_lend (f := 208) (A := bA t2738) (xs := [.tmp 126]) («as» := [EqA (.pointer (some ⟨b, 0, none⟩))]) R ca208 (search_finder_possible.con k (Finder.mk a0.fp a0.fg a0.fis a0.fpartial a0.finjective a0.fmost (y9 ++ [x63]) y10 y11) t2738 ht2738) R (.cons (.box 0 R (.cons (.id _) (.cons (.id _) (.cons (.id _) (.cons (.id _) (.cons (.id _) (.cons (.id _) (.cons (.id _) (.cons (.id _) (.cons (.id _) (.cons (.slc 1 R) (.cons (.slc 2 R) (.cons (.slc 3 R) .nil))))))))))))) .nil) (Flat.eq _)) <| nt ?_
        refine W.jn3 (Γ := (Value × Value × Value)) (fun (_ : (Value × Value × Value)) (_ : (List Int)) (_ : (List Int)) (_ : (List Morphism)) => [(0, EqA (.pointer (some ⟨b, 0, none⟩))), (2, iA (a0.fnodes.length : Int)), (61, SlcA kInt a0.fg.fNodes), (62, iA (a0.fg.fNodes.length : Int)), (63, iA x63)]) (fun (g2744 : (Value × Value × Value)) (y9' : (List Int)) (y10' : (List Int)) (y11' : (List Morphism)) => [BoxE b [SlcA kInt a0.fp.fNodes, SlcA kEdge a0.fp.fEdges, SlcA kInt a0.fg.fNodes, SlcA kEdge a0.fg.fEdges, SlcA (kSl kBool) a0.fis, OptA kInt a0.fpartial.fNodes, OptA kInt a0.fpartial.fEdges, bA a0.finjective, iA a0.fmost, HdA g2744.1, HdA g2744.2.1, HdA g2744.2.2], SlE 3 g2744.1 kInt y9', SlE 3 g2744.2.1 kInt y10', SlE 64 g2744.2.2 kMorphism y11']) h (fun g2744 y9' y10' y11' h => ?_) (fun j2751 Kj2751 h => ?_)
        ·refine qq <| qJ <| mv R R <| mv R R <| p1 R 131 R (q_nilCheckP R) <| p1 R 132 R (q_fieldP R fo238_6) <| WL.q (qj R) R R (.s 133 R .nil) (q_loadB R sh26 (i := 0) R R) <| mv R R ?_
         obtain ⟨c2752, h⟩ := qK h
         refine WL.w [1] R (qj R) R R (.s 134 R (.s 135 R .nil)) (w_sub R el26 R c2752.1 c2752.2) ?_
         rintro _ _ ⟨v2753, rfl, rfl⟩
         refine p1 R 130 R (q_nilCheckP R) <| p1 R 137 R (q_fieldP R fo238_6) <| WL.w0 [1] R (qj R) R (.s 138 R (.s 136 R .nil)) (w_store (L := [SlcA kInt a0.fp.fNodes, SlcA kEdge a0.fp.fEdges, SlcA kInt a0.fg.fNodes, SlcA kEdge a0.fg.fEdges, SlcA (kSl kBool) a0.fis, OptA kInt a0.fpartial.fNodes, OptA kInt a0.fpartial.fEdges, bA a0.finjective, iA a0.fmost, HdA v2753, HdA g2744.2.1, HdA g2744.2.2]) R sh26 (qW R) R R (leB R) R) ?_
         rintro _ _ ⟨rfl, rfl⟩
         refine qx <| vZ <| qw (env' := [(63, _), (62, _), (61, _), (2, _), (0, _)]) (.o4 R (.one R (.nil _))) <| qq <| qJ ?_
         obtain ⟨c2754, h⟩ := qK h
         refine pk R 63 R (vK R c2754) <| mv R R <| qx ?_
         exact next0 (v2753, g2744.2.1, g2744.2.2) (y9'.take ((a0.fnodes.length : Int) : Int).toNat) y10' y11' (x63 + 1) _ h (.o4 R (.one R (.nil _)))
        ·refine qZ h R (fun hb2755 h => ?_) (fun hb2755 h => ?_)
         ·refine qJ <| mv R R ?_
          obtain ⟨t2756, ht2756, h⟩ := vw h
          refine WL.w [0, 0, 0, 0] R (qj R) R R (.s 128 R .nil) (w_callI (f := 191) (xs := [.tmp 128]) («as» := [EqA (.pointer (some ⟨b, 0, none⟩))]) R ca191 (ih b v2737 g0.2.1 g0.2.2 (Finder.mk a0.fp a0.fg a0.fis a0.fpartial a0.finjective a0.fmost (y9 ++ [x63]) y10 y11) t2756 ht2756) R (.cons (Imp.id _) .nil)) ?_
          rintro _ _ ⟨v2757, v2758, v2759, rfl, rfl⟩
          refine qx ?_
          exact qw (.o4 R (.one R (.nil _))) (Kj2751 (v2757, v2758, v2759) t2756.1 t2756.2.1 t2756.2.2 h)
         ·refine qB ?_
          exact qw (.o4 R (.one R (.nil _))) (Kj2751 (v2737, g0.2.1, g0.2.2) (y9 ++ [x63]) y10 y11 h)
      ·refine W.drawK [(0, false), (1, false), (2, false), (3, false), (4, false), (5, false), (6, false), (7, false), (8, false), (9, false), (10, false), (11, true), (12, false), (13, false), (14, false), (15, false), (16, true), (17, false), (18, false), (19, false), (20, false), (21, false), (22, false), (23, false), (24, false), (25, false), (26, false), (27, false), (28, false), (29, false), (30, false), (31, true), (32, false), (33, false), (34, false), (35, false), (36, true), (37, false), (38, true), (39, false), (40, false)] [] (bm [0, 1, 3, 7, 7, 31, 63, 127, 255, 511, 1023, 2047, 255, 4351, 12543, 28927, 61695, 255, 258303, 520447, 1048575, 2097151, 255, 8388607, 16777215, 33554431, 67108863, 134217727, 268435455, 536870911, 1073741823, 2147483647, 4294967295, 8589934591, 17179869183, 34359738367, 68719476735, 8589934591, 274877906943, 549755813887, 1099511627775]) mx (by kernel_rfl) <| dm R R R <| qz R R (.p R (.s 75 R (.k .nil)) R (qN R R)) <| dm R R R ?_
       rcases bif_s h with ⟨hb2760, h⟩ | ⟨hb2760, h⟩
       ·refine qz R R (.gp R R R hb2760 (.s 5 R .nil) R (q_move R)) <| qz R R (.gp R R R hb2760 (.s 3 R .nil) R (q_move R)) <| qz R R (.gp R R R hb2760 (.s 78 R (.s 79 R .nil)) R (qN R R)) <| qz R R (.p R (.s 77 R (.s 80 R .nil)) R (vQ R hb2760)) <| dm R R R ?_
        rcases bif_s h with ⟨hb2761, h⟩ | ⟨hb2761, h⟩
        ·refine dx R R R hb2761 <| dx R R R hb2761 <| dx R R R hb2761 <| dx R R R hb2761 <| dx R R R hb2761 <| dx R R R hb2761 <| dx R R R hb2761 <| dx R R R hb2761 <| dx R R R hb2761 <| dx R R R hb2761 <| dx R R R hb2761 <| dx R R R hb2761 <| dx R R R hb2761 ?_
         refine dx R R R hb2761 <| dx R R R hb2761 <| dx R R R hb2761 <| dx R R R hb2761 <| dx R R R hb2761 <| qz R R (.p R (.s 82 R (.k .nil)) R (vQ R hb2761)) <| dm R R R <| dx R R R R <| dx R R R R <| dx R R R R <| dx R R R R <| dx R R R R <| qz R R (.und R R R) ?_
         refine qz R R (.und R R R) <| qz R R (.und R R R) <| qz R R (.und R R R) <| qz R R (.und R R R) <| qz R R (.und R R R) <| dx R R R R <| qz R R (.p R (.s 102 R (.k .nil)) R (vQ R R)) <| DK.nil <| CSteps.nil ?_
         exact qw (.o4 R (.o2 R (.one R (.nil _)))) (Kj2733 () true h)
        ·refine qz R R (.gp R R R hb2761 (.s 0 R .nil) R (q_move R)) <| qz R R (.gp R R R hb2761 (.s 83 R .nil) R (q_nilCheckP R)) <| qz R R (.gp R R R hb2761 (.s 84 R .nil) R (q_fieldP R fo238_2)) <| qz R R (.go R R R hb2761 (.s 85 R .nil) R (q_loadB R sh200 (i := 0) R R)) <| qz R R (.gp R R R hb2761 (.s 0 R .nil) R (q_move R)) <| qz R R (.gp R R R hb2761 (.s 87 R .nil) R (q_nilCheckP R)) <| qz R R (.gp R R R hb2761 (.s 88 R .nil) R (q_fieldP R fo238_0)) <| qz R R (.gp R R R hb2761 (.s 89 R .nil) R (q_fieldP R fo38_0)) <| qz R R (.go R R R hb2761 (.s 90 R .nil) R (q_loadB R sh26 (i := 0) R R)) <| qz R R (.gp R R R hb2761 (.s 2 R .nil) R (q_move R)) ?_
         obtain ⟨c2762, h⟩ := qK h
         refine qz R R (.gp R R R hb2761 (.s 91 R (.s 92 R .nil)) R (vX R el26 R c2762.1 c2762.2)) <| qz R R (.gp R R R hb2761 (.s 93 R .nil) R (q_load R sh3)) ?_
         obtain ⟨c2763, h⟩ := qK h
         refine qz R R (.gp R R R hb2761 (.s 86 R (.s 94 R .nil)) R (vX R el200 R c2763.1 c2763.2)) <| qz R R (.gp R R R hb2761 (.s 95 R .nil) R (q_load R sh111)) <| qz R R (.gp R R R hb2761 (.s 4 R .nil) R (q_move R)) ?_
         obtain ⟨c2764, h⟩ := qK h
         refine qz R R (.gp R R R hb2761 (.s 96 R (.s 97 R .nil)) R (vX R el111 R c2764.1 c2764.2)) <| qz R R (.gp R R R hb2761 (.s 98 R .nil) R (q_load R sh4)) <| qz R R (.gp R R R hb2761 (.s 99 R .nil) R (q_not R)) <| qz R R (.p R (.s 82 R (.s 100 R .nil)) R (vj R hb2761)) <| dm R R R ?_
         rcases bif_s h with ⟨hb2765, h⟩ | ⟨hb2765, h⟩
         ·refine dx R R R hb2765 <| dx R R R hb2765 <| dx R R R hb2765 <| dx R R R hb2765 <| dx R R R hb2765 <| qz R R (.und R R R) <| qz R R (.und R R R) <| qz R R (.und R R R) <| qz R R (.und R R R) <| qz R R (.und R R R) <| qz R R (.und R R R) <| dx R R R hb2765 <| qz R R (.p R (.s 102 R (.k .nil)) R (vQ R hb2765)) ?_
          refine DK.nil <| CSteps.nil ?_
          exact qw (.o4 R (.o2 R (.one R (.nil _)))) (Kj2733 () true h)
         ·refine qz R R (.gp R R R hb2765 (.s 0 R .nil) R (q_move R)) <| qz R R (.gp R R R hb2765 (.s 103 R .nil) R (q_nilCheckP R)) <| qz R R (.gp R R R hb2765 (.s 104 R .nil) R (q_fieldP R fo238_4)) <| qz R R (.go R R R hb2765 (.s 105 R .nil) R (q_loadB R sh4 (i := 0) R R)) <| qz R R (.gp R R R hb2765 (.s 106 R .nil) R (q_move R)) ?_
          rcases bif_s h with ⟨hb2766, h⟩ | ⟨hb2766, h⟩
          ·refine qz R R (.gp R R R hb2766 (.s 0 R .nil) R (q_move R)) <| qz R R (.gp R R R hb2766 (.s 108 R .nil) R (q_nilCheckP R)) <| qz R R (.gp R R R hb2766 (.s 109 R .nil) R (q_fieldP R fo238_6)) <| qz R R (.go R R R hb2766 (.s 110 R .nil) R (q_loadB R sh26 (i := 0) R R)) <| qz R R (.gp R R R hb2766 (.s 3 R .nil) R (q_move R)) ?_
           obtain ⟨t2767, ht2767, h⟩ := vw h
           refine qz R R (.go R R R hb2766 (.s 111 R (.s 112 R .nil)) R (q_lend (f := 195) (A := bA t2767) (xs := [.tmp 111, .tmp 112]) («as» := [HdA g0.1, iA x63]) R ca195 (slices_Contains_int.con k y9 x63 t2767 ht2767) R (.cons (.slc 1 R) (.cons (.id _) .nil)) (Flat.eq _))) <| qz R R (.gp R R R hb2765 (.s 107 R (.s 113 R .nil)) R (vQ R hb2766)) <| qz R R (.p R (.s 102 R (.s 114 R .nil)) R (vj R hb2765)) <| DK.nil <| CSteps.nil ?_
           exact qw (.o4 R (.o2 R (.one R (.nil _)))) (Kj2733 () t2767 h)
          ·refine dx R R R hb2766 <| dx R R R hb2766 <| dx R R R hb2766 <| dx R R R hb2766 <| dx R R R hb2766 <| dx R R R hb2766 <| qz R R (.gp R R R hb2765 (.s 107 R (.k .nil)) R (vj R hb2766)) <| qz R R (.p R (.s 102 R (.s 114 R .nil)) R (vj R hb2765)) <| DK.nil <| CSteps.nil ?_
           exact qw (.o4 R (.o2 R (.one R (.nil _)))) (Kj2733 () false h)
       ·refine dx R R R hb2760 <| dx R R R hb2760 <| dx R R R hb2760 <| qz R R (.p R (.s 77 R (.k .nil)) R (vj R hb2760)) <| dm R R R <| qz R R (.gp R R R R (.s 0 R .nil) R (q_move R)) <| qz R R (.gp R R R R (.s 83 R .nil) R (q_nilCheckP R)) <| qz R R (.gp R R R R (.s 84 R .nil) R (q_fieldP R fo238_2)) <| qz R R (.go R R R R (.s 85 R .nil) R (q_loadB R sh200 (i := 0) R R)) <| qz R R (.gp R R R R (.s 0 R .nil) R (q_move R)) <| qz R R (.gp R R R R (.s 87 R .nil) R (q_nilCheckP R)) <| qz R R (.gp R R R R (.s 88 R .nil) R (q_fieldP R fo238_0)) <| qz R R (.gp R R R R (.s 89 R .nil) R (q_fieldP R fo38_0)) ?_
        refine qz R R (.go R R R R (.s 90 R .nil) R (q_loadB R sh26 (i := 0) R R)) <| qz R R (.gp R R R R (.s 2 R .nil) R (q_move R)) ?_
        obtain ⟨c2768, h⟩ := qK h
        refine qz R R (.gp R R R R (.s 91 R (.s 92 R .nil)) R (vX R el26 R c2768.1 c2768.2)) <| qz R R (.gp R R R R (.s 93 R .nil) R (q_load R sh3)) ?_
        obtain ⟨c2769, h⟩ := qK h
        refine qz R R (.gp R R R R (.s 86 R (.s 94 R .nil)) R (vX R el200 R c2769.1 c2769.2)) <| qz R R (.gp R R R R (.s 95 R .nil) R (q_load R sh111)) <| qz R R (.gp R R R R (.s 4 R .nil) R (q_move R)) ?_
        obtain ⟨c2770, h⟩ := qK h
        refine qz R R (.gp R R R R (.s 96 R (.s 97 R .nil)) R (vX R el111 R c2770.1 c2770.2)) <| qz R R (.gp R R R R (.s 98 R .nil) R (q_load R sh4)) <| qz R R (.gp R R R R (.s 99 R .nil) R (q_not R)) <| qz R R (.p R (.s 82 R (.s 100 R .nil)) R (vj R R)) <| dm R R R ?_
        rcases bif_s h with ⟨hb2771, h⟩ | ⟨hb2771, h⟩
        ·refine dx R R R hb2771 <| dx R R R hb2771 <| dx R R R hb2771 <| dx R R R hb2771 <| dx R R R hb2771 <| qz R R (.und R R R) <| qz R R (.und R R R) <| qz R R (.und R R R) <| qz R R (.und R R R) <| qz R R (.und R R R) <| qz R R (.und R R R) <| dx R R R hb2771 <| qz R R (.p R (.s 102 R (.k .nil)) R (vQ R hb2771)) ?_
         refine DK.nil <| CSteps.nil ?_
         exact qw (.o4 R (.o2 R (.one R (.nil _)))) (Kj2733 () true h)
        ·refine qz R R (.gp R R R hb2771 (.s 0 R .nil) R (q_move R)) <| qz R R (.gp R R R hb2771 (.s 103 R .nil) R (q_nilCheckP R)) <| qz R R (.gp R R R hb2771 (.s 104 R .nil) R (q_fieldP R fo238_4)) <| qz R R (.go R R R hb2771 (.s 105 R .nil) R (q_loadB R sh4 (i := 0) R R)) <| qz R R (.gp R R R hb2771 (.s 106 R .nil) R (q_move R)) ?_
         rcases bif_s h with ⟨hb2772, h⟩ | ⟨hb2772, h⟩
         ·refine qz R R (.gp R R R hb2772 (.s 0 R .nil) R (q_move R)) <| qz R R (.gp R R R hb2772 (.s 108 R .nil) R (q_nilCheckP R)) <| qz R R (.gp R R R hb2772 (.s 109 R .nil) R (q_fieldP R fo238_6)) <| qz R R (.go R R R hb2772 (.s 110 R .nil) R (q_loadB R sh26 (i := 0) R R)) <| qz R R (.gp R R R hb2772 (.s 3 R .nil) R (q_move R)) ?_
          obtain ⟨t2773, ht2773, h⟩ := vw h
          refine qz R R (.go R R R hb2772 (.s 111 R (.s 112 R .nil)) R (q_lend (f := 195) (A := bA t2773) (xs := [.tmp 111, .tmp 112]) («as» := [HdA g0.1, iA x63]) R ca195 (slices_Contains_int.con k y9 x63 t2773 ht2773) R (.cons (.slc 1 R) (.cons (.id _) .nil)) (Flat.eq _))) <| qz R R (.gp R R R hb2771 (.s 107 R (.s 113 R .nil)) R (vQ R hb2772)) <| qz R R (.p R (.s 102 R (.s 114 R .nil)) R (vj R hb2771)) <| DK.nil <| CSteps.nil ?_
          exact qw (.o4 R (.o2 R (.one R (.nil _)))) (Kj2733 () t2773 h)
         ·refine dx R R R hb2772 <| dx R R R hb2772 <| dx R R R hb2772 <| dx R R R hb2772 <| dx R R R hb2772 <| dx R R R hb2772 <| qz R R (.gp R R R hb2771 (.s 107 R (.k .nil)) R (vj R hb2772)) <| qz R R (.p R (.s 102 R (.s 114 R .nil)) R (vj R hb2771)) <| DK.nil <| CSteps.nil ?_
          exact qw (.o4 R (.o2 R (.one R (.nil _)))) (Kj2733 () false h)
     ·refine W.exit <| qV <| qV <| vB ?_
      exact qw (.one R (.nil _)) (Kj2331 (g0.1, g0.2.1, g0.2.2) y9 y10 y11 h)
    ·refine qX <| W.drawK [(0, false), (1, false), (2, false), (3, true), (4, true), (5, false), (6, false), (7, false), (8, false), (9, true), (10, false), (11, false), (12, false)] [] (bm [0, 1, 3, 7, 15, 0, 32, 96, 224, 480, 992, 2047, 4095]) mx (by kernel_rfl) <| dm R R R <| qz R R (.p R (.s 141 R .nil) R (q_nilCheckP R)) <| qz R R (.p R (.s 142 R .nil) R (q_fieldP R fo238_7)) <| qz R R (.o R (.s 143 R .nil) R (q_loadB R sh26 (i := 0) R R)) <| qz R R (.o R (.s 144 R .nil) R (q_lenO R elS26 (i := 2) R)) <| dm R R R <| qz R R (.p R (.s 146 R .nil) R (q_nilCheckP R)) <| qz R R (.p R (.s 147 R .nil) R (q_fieldP R fo238_0)) <| qz R R (.p R (.s 148 R .nil) R (q_fieldP R fo38_1)) <| qz R R (.o R (.s 149 R .nil) R (q_loadB R sh36 (i := 0) R R)) <| qz R R (.p R (.s 150 R .nil) R (vN R elS36)) ?_
     refine qz R R (.p R (.s 145 R (.s 151 R .nil)) R (qN R R)) <| qz R R (.p R (.s 152 R .nil) R (q_assign R)) <| DK.nil <| CSteps.nil <| qw (env' := [(140, _), (0, _)]) (.o2 R (.nil _)) <| qq ?_
     refine qZ h R (fun hb2922 h => ?_) (fun hb2922 h => ?_)
     ·refine sr <| mv R R <| p1 R 153 R (q_nilCheckP R) <| p1 R 154 R (q_fieldP R fo238_7) <| WL.q (qj R) R R (.s 155 R .nil) (q_loadB R sh26 (i := 0) R R) <| WL.q (qj R) R R (.s 156 R .nil) (q_lenO R elS26 (i := 2) R) <| av R R <| nx <| mv R R ?_
      refine p1 R 158 R (q_nilCheckP R) <| p1 R 159 R (q_fieldP R fo238_1) <| p1 R 160 R (q_fieldP R fo38_1) <| WL.q (qj R) R R (.s 161 R .nil) (q_loadB R sh36 (i := 0) R R) <| p1 R 162 R (vN R elS36) <| mk_ R <| qx <| qw (env' := [(164, _), (163, _), (6, _), (0, _)]) (.o4 R (.nil _)) <| qq <| vx ?_
      refine W.loop4 (Γ := (Value × Value × Value)) (fun (_ : (Value × Value × Value)) (_ : (List Int)) (_ : (List Int)) (_ : (List Morphism)) (x164 : Int) => [(0, EqA (.pointer (some ⟨b, 0, none⟩))), (6, iA (a0.fedges.length : Int)), (163, iA (a0.fg.fEdges.length : Int)), (164, iA x164)]) (fun (g1 : (Value × Value × Value)) (y9 : (List Int)) (y10 : (List Int)) (y11 : (List Morphism)) (_ : Int) => [BoxE b [SlcA kInt a0.fp.fNodes, SlcA kEdge a0.fp.fEdges, SlcA kInt a0.fg.fNodes, SlcA kEdge a0.fg.fEdges, SlcA (kSl kBool) a0.fis, OptA kInt a0.fpartial.fNodes, OptA kInt a0.fpartial.fEdges, bA a0.finjective, iA a0.fmost, HdA g1.1, HdA g1.2.1, HdA g1.2.2], SlE 3 g1.1 kInt y9, SlE 3 g1.2.1 kInt y10, SlE 64 g1.2.2 kMorphism y11]) h (w0, w1, w2) (.o4 R (.nil _)) R (fun rec1 K1 next1 g1 y9 y10 y11 x164 h => ?_)
      unfold search_finder_find.b1 at h
      refine sr <| p2 R 164 R 163 R (qN R R) <| nt <| qX ?_
      refine qZ h R (fun hb3017 h => ?_) (fun hb3017 h => ?_)
      ·refine qB <| qq <| qX <| vx <| sr <| mv R R <| av R R <| nt <| qX <| qX ?_
       refine W.jn1 (Γ := Unit) (fun (_ : Unit) (x185 : Bool) => [(0, EqA (.pointer (some ⟨b, 0, none⟩))), (6, iA (a0.fedges.length : Int)), (163, iA (a0.fg.fEdges.length : Int)), (164, iA x164), (7, iA x164), (185, bA x185)]) (fun (_ : Unit) (_ : Bool) => [BoxE b [SlcA kInt a0.fp.fNodes, SlcA kEdge a0.fp.fEdges, SlcA kInt a0.fg.fNodes, SlcA kEdge a0.fg.fEdges, SlcA (kSl kBool) a0.fis, OptA kInt a0.fpartial.fNodes, OptA kInt a0.fpartial.fEdges, bA a0.finjective, iA a0.fmost, HdA g1.1, HdA g1.2.1, HdA g1.2.2], SlE 3 g1.1 kInt y9, SlE 3 g1.2.1 kInt y10, SlE 64 g1.2.2 kMorphism y11]) h (fun _ x185 h => ?_) (fun j3042 Kj3042 h => ?_)
       ·refine qq ?_
        refine qZ h R (fun hb3043 h => ?_) (fun hb3043 h => ?_)
        ·refine W.exit <| qV <| vB <| qq <| qJ ?_
         obtain ⟨c3044, h⟩ := qK h
         refine pk R 164 R (vK R c3044) <| mv R R <| qx ?_
         exact next1 (g1.1, g1.2.1, g1.2.2) y9 y10 y11 (x164 + 1) _ h (.o4 R (.nil _))
        ·refine qB <| qq <| sr <| mv R R <| mv R R <| p1 R 187 R (q_nilCheckP R) <| p1 R 188 R (q_fieldP R fo238_7) <| WL.q (qj R) R R (.s 189 R .nil) (q_loadB R sh26 (i := 0) R R) <| mv R R <| p1 R 191 R (q_lit (kd := kInt) (ps := [(0, .tmp 191)]) (xs := [.tmp 191]) («as» := [iA x164]) (ys := [x164]) R R el26 R gr3 R R R (.cons (qW R) .nil)) ?_
         obtain ⟨c3045, h⟩ := qK h
         refine WL.w [2] R (qj R) R R (.s 190 R (.s 192 R .nil)) (w_append (kd := kInt) R el26 R gr3 c3045) ?_
         rintro _ _ ⟨v3046, rfl, rfl⟩
         refine p1 R 186 R (q_nilCheckP R) <| p1 R 194 R (q_fieldP R fo238_7) <| WL.w0 [1] R (qj R) R (.s 195 R (.s 193 R .nil)) (w_store (L := [SlcA kInt a0.fp.fNodes, SlcA kEdge a0.fp.fEdges, SlcA kInt a0.fg.fNodes, SlcA kEdge a0.fg.fEdges, SlcA (kSl kBool) a0.fis, OptA kInt a0.fpartial.fNodes, OptA kInt a0.fpartial.fEdges, bA a0.finjective, iA a0.fmost, HdA g1.1, HdA v3046, HdA g1.2.2]) R sh26 (qW R) R R (leB R) R) ?_
         rintro _ _ ⟨rfl, rfl⟩
         refine qx <| qw (env' := [(164, _), (163, _), (6, _), (0, _)]) (.o4 R (.nil _)) <| qq <| sr <| mv R R ?_
         obtain ⟨t3047, ht3047, h⟩ := vw h
         refine WL.w [0, 1, 0, 0] R (qj R) R R (.s 196 R .nil) (w_callI (f := 191) (xs := [.tmp 196]) («as» := [EqA (.pointer (some ⟨b, 0, none⟩))]) R ca191 (ih b g1.1 v3046 g1.2.2 (Finder.mk a0.fp a0.fg a0.fis a0.fpartial a0.finjective a0.fmost y9 (y10 ++ [x164]) y11) t3047 ht3047) R (.cons (Imp.id _) .nil)) ?_
         rintro _ _ ⟨v3048, v3049, v3050, rfl, rfl⟩
         refine nt <| qJ <| mv R R <| mv R R <| p1 R 199 R (q_nilCheckP R) <| p1 R 200 R (q_fieldP R fo238_7) <| WL.q (qj R) R R (.s 201 R .nil) (q_loadB R sh26 (i := 0) R R) <| mv R R ?_
         obtain ⟨c3051, h⟩ := qK h
         refine WL.w [2] R (qj R) R R (.s 202 R (.s 203 R .nil)) (w_sub R el26 R c3051.1 c3051.2) ?_
         rintro _ _ ⟨v3052, rfl, rfl⟩
         refine p1 R 198 R (q_nilCheckP R) <| p1 R 205 R (q_fieldP R fo238_7) <| WL.w0 [1] R (qj R) R (.s 206 R (.s 204 R .nil)) (w_store (L := [SlcA kInt a0.fp.fNodes, SlcA kEdge a0.fp.fEdges, SlcA kInt a0.fg.fNodes, SlcA kEdge a0.fg.fEdges, SlcA (kSl kBool) a0.fis, OptA kInt a0.fpartial.fNodes, OptA kInt a0.fpartial.fEdges, bA a0.finjective, iA a0.fmost, HdA v3048, HdA v3052, HdA v3050]) R sh26 (qW R) R R (leB R) R) ?_
         rintro _ _ ⟨rfl, rfl⟩
         refine qx <| vZ <| qw (env' := [(164, _), (163, _), (6, _), (0, _)]) (.o4 R (.nil _)) <| qq <| qJ ?_
         obtain ⟨c3053, h⟩ := qK h
         refine pk R 164 R (vK R c3053) <| mv R R <| qx <| QN.order [0, 1, 0, 0] R ?_
         exact next1 (v3048, v3052, v3050) t3047.1 (t3047.2.1.take ((a0.fedges.length : Int) : Int).toNat) t3047.2.2 (x164 + 1) _ h (.o4 R (.nil _))
       ·refine qJ <| mv R R <| mv R R <| mv R R ?_
        obtain ⟨t3054, ht3054, h⟩ := vw h
        refine WL.q (qj R) R R (.s 167 R (.s 168 R (.s 169 R .nil))) (q_lend (f := 209) (A := bA t3054) (xs := [.tmp 167, .tmp 168, .tmp 169]) («as» := [EqA (.pointer (some ⟨b, 0, none⟩)), iA (a0.fedges.length : Int), iA x164]) R ca209 (search_finder_fits.con k (Finder.mk a0.fp a0.fg a0.fis a0.fpartial a0.finjective a0.fmost y9 y10 y11) (a0.fedges.length : Int) x164 t3054 ht3054) R (.cons (.box 0 R (.cons (.id _) (.cons (.id _) (.cons (.id _) (.cons (.id _) (.cons (.id _) (.cons (.id _) (.cons (.id _) (.cons (.id _) (.cons (.id _) (.cons (.slc 1 R) (.cons (.slc 2 R) (.cons (.slc 3 R) .nil))))))))))))) (.cons (.id _) (.cons (.id _) .nil))) (Flat.eq _)) <| p1 R 170 R (q_not R) <| mv R R ?_
        rcases bif_s h with ⟨hb3055, h⟩ | ⟨hb3055, h⟩
        ·refine sk R R R hb3055 <| sk R R R hb3055 <| sk R R R hb3055 <| sk R R R hb3055 <| sk R R R hb3055 <| su R R R <| su R R R <| su R R R <| su R R R <| su R R R <| su R R R <| sk R R R hb3055 <| pk R 172 R (vQ R hb3055) ?_
         refine qx ?_
         exact qw (.o4 R (.o2 R (.nil _))) (Kj3042 () true h)
        ·refine wm R R R hb3055 R R <| wq R R R hb3055 (.s 173 R .nil) (q_nilCheckP R).o <| wq R R R hb3055 (.s 174 R .nil) (q_fieldP R fo238_4).o <| wq R R R hb3055 (.s 175 R .nil) (q_loadB R sh4 (i := 0) R R) <| wm R R R hb3055 R R ?_
         rcases bif_s h with ⟨hb3056, h⟩ | ⟨hb3056, h⟩
         ·refine wm R R R hb3056 R R <| wq R R R hb3056 (.s 178 R .nil) (q_nilCheckP R).o <| wq R R R hb3056 (.s 179 R .nil) (q_fieldP R fo238_7).o <| wq R R R hb3056 (.s 180 R .nil) (q_loadB R sh26 (i := 0) R R) <| wm R R R hb3056 R R ?_
          obtain ⟨t3057, ht3057, h⟩ := vw h
          refine wq R R R hb3056 (.s 181 R (.s 182 R .nil)) (q_lend (f := 195) (A := bA t3057) (xs := [.tmp 181, .tmp 182]) («as» := [HdA g1.2.1, iA x164]) R ca195 (slices_Contains_int.con k y10 x164 t3057 ht3057) R (.cons (.slc 2 R) (.cons (.id _) .nil)) (Flat.eq _)) <| wq R R R hb3055 (.s 177 R (.s 183 R .nil)) (vQ R hb3056).o <| p2 R 172 R 184 R (vj R hb3055) <| qx ?_
          exact qw (.o4 R (.o2 R (.nil _))) (Kj3042 () t3057 h)
         ·refine sk R R R hb3056 <| sk R R R hb3056 <| sk R R R hb3056 <| sk R R R hb3056 <| sk R R R hb3056 <| sk R R R hb3056 <| wq R R R hb3055 (.s 177 R (.k .nil)) (vj R hb3056).o <| p2 R 172 R 184 R (vj R hb3055) <| qx ?_
          exact qw (.o4 R (.o2 R (.nil _))) (Kj3042 () false h)
      ·refine W.exit <| qV <| qV <| vB ?_
       exact qw (.one R (.nil _)) (Kj2331 (g1.1, g1.2.1, g1.2.2) y9 y10 y11 h)
     ·refine W.drawK [(0, false), (1, false), (2, false), (3, false), (4, true), (5, false), (6, false), (7, false), (8, true), (9, true), (10, false), (11, false), (12, false), (13, true), (14, true), (15, false), (16, false)] [17, 18, 19, 20] (bm [0, 0, 2, 6, 14, 0, 32, 96, 224, 480, 0, 1024, 3072, 7168, 16352, 32736, 65504, 131070, 262143, 524287, 1048575]) mx (by kernel_rfl) <| dm R R R <| dm R R R <| qz R R (.p R (.s 9 R .nil) R (q_nilCheckP R)) <| qz R R (.p R (.s 10 R .nil) R (q_fieldP R fo238_8)) <| qz R R (.o R (.s 11 R .nil) R (q_loadB R sh133 (i := 0) R R)) <| dm R R R <| qz R R (.p R (.s 13 R .nil) R (q_nilCheckP R)) <| qz R R (.p R (.s 14 R .nil) R (q_fieldP R fo238_6)) <| qz R R (.o R (.s 15 R .nil) R (q_loadB R sh26 (i := 0) R R)) ?_
      obtain ⟨t3066, ht3066, h⟩ := vw h
      refine qz R R (.o R (.s 16 R .nil) R (q_lendNew (f := 11) (xs := [.tmp 16]) («as» := [HdA w0]) R ca11 (slices_Clone_int.conN k a0.fnodes t3066 ht3066) R (.cons (.slc 1 R) .nil) kIntFlat)) <| dm R R R <| qz R R (.p R (.s 18 R .nil) R (q_nilCheckP R)) <| qz R R (.p R (.s 19 R .nil) R (q_fieldP R fo238_7)) <| qz R R (.o R (.s 20 R .nil) R (q_loadB R sh26 (i := 0) R R)) ?_
      obtain ⟨t3067, ht3067, h⟩ := vw h
      refine qz R R (.o R (.s 21 R .nil) R (q_lendNew (f := 11) (xs := [.tmp 21]) («as» := [HdA w1]) R ca11 (slices_Clone_int.conN k a0.fedges t3067 ht3067) R (.cons (.slc 2 R) .nil) kIntFlat)) <| qz R R (.p R (.s 17 R (.s 22 R .nil)) R (q_build (is := [0, 1]) (xs := [.tmp 17, .tmp 22]) (L := [SlcA kInt t3066, SlcA kInt t3067]) R R z64 pl64 R R (.cons (qW R) (.cons (qW R) .nil)) R)) <| qz R R (.p R (.s 23 R .nil) R (q_lit (kd := kMorphism) (ps := [(0, .tmp 23)]) (xs := [.tmp 23]) («as» := [AggA [SlcA kInt t3066, SlcA kInt t3067]]) (ys := [(Morphism.mk t3066 t3067)]) R R el133 R gr64 R R R (.cons (qy _) .nil))) ?_
      obtain ⟨c3068, h⟩ := qK h
      refine DK.nil <| CSteps.w [3] R R R R (.s 12 R (.s 24 R .nil)) R (w_append (kd := kMorphism) R el133 R gr64 c3068) ?_
      rintro _ _ ⟨v3069, rfl, rfl⟩
      refine CSteps.p R R R (.s 8 R .nil) R (q_nilCheckP R) <| CSteps.p R R R (.s 26 R .nil) R (q_fieldP R fo238_8) <| CSteps.w0 [1] R R R (.s 27 R (.s 25 R .nil)) R (w_store (L := [SlcA kInt a0.fp.fNodes, SlcA kEdge a0.fp.fEdges, SlcA kInt a0.fg.fNodes, SlcA kEdge a0.fg.fEdges, SlcA (kSl kBool) a0.fis, OptA kInt a0.fpartial.fNodes, OptA kInt a0.fpartial.fEdges, bA a0.finjective, iA a0.fmost, HdA w0, HdA w1, HdA v3069]) R sh133 (qW R) R R (leB R) R) ?_
      rintro _ _ ⟨rfl, rfl⟩
      refine CSteps.nil <| QN.order [0, 1, 1, 0] R ?_
      exact qw (.one R (.nil _)) (Kj2331 (w0, w1, v3069) a0.fnodes a0.fedges (a0.fout ++ [(Morphism.mk t3066 t3067)]) h)
end Go.Proofs.YtcgdfjpeboiioaaGreat
