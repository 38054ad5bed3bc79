import Derived.Test.YtcgdfjpeboiioaaGreatVaC4
namespace Go.Proofs.YtcgdfjpeboiioaaGreat
open Go Go.Abs
attribute [local irreducible] Tryz.prog
theorem search_found.con (k : Nat) (a0 : Types) (a1 : Graph) (a2 : Graph) (a3 : OMorphism) (a4 : Bool) (a5 : Int) (r : (List Morphism)) (h : search_found k a0 a1 a2 a3 a4 a5 = some r) : Con Tryz.prog 170 [] [AggA [SlcA kNodeType a0.fNodes, SlcA kEdgeType a0.fEdges], AggA [SlcA kInt a1.fNodes, SlcA kEdge a1.fEdges], AggA [SlcA kInt a2.fNodes, SlcA kEdge a2.fEdges], AggA [OptA kInt a3.fNodes, OptA kInt a3.fEdges], bA a4, iA a5] (RA (SlcA kMorphism r)) := by
 unfold search_found at h
 refine vJ (N := 29) Tryz.func170 R R R fun w0_ fg_ => sr <| p1 R 0 R (q_box R (qy _)) <| p1 R 1 R (q_box R (qy _)) <| p1 R 2 R (q_box R (qy _)) <| p1 R 3 R (q_box R (qy _)) <| ak R <| nt <| qX <| W.drawK [(0, false), (1, false), (2, false), (3, false), (4, false), (5, false), (6, false), (7, false)] [8, 9] (bm [0, 0, 0, 4, 0, 0, 0, 127, 255, 511]) mx (by kernel_rfl) <| qz R R (.p R (.s 7 R .nil) R (q_loadS R sh38 (leB R) R)) ?_
 refine qz R R (.p R (.s 8 R .nil) R (q_loadS R sh38 (leB R) R)) <| qz R R (.p R (.s 6 R .nil) R (q_loadS R sh35 (leB R) R)) ?_
 obtain ⟨t104, ht104, h⟩ := vw h
 refine qz R R (.p R (.s 16 R .nil) R (vy (f := 159) (A := SlcA (kSl kBool) t104) (xs := [.tmp 16]) («as» := [AggA [SlcA kNodeType a0.fNodes, SlcA kEdgeType a0.fEdges]]) R ca159 (search_below.con k a0 t104 ht104) R)) <| qz R R (.p R (.s 9 R .nil) R (q_loadS R sh64 (leB R) R)) <| dm R R R <| dm R R R <| qz R R (.p R (.s 14 R (.s 15 R (.s 17 R (.s 18 R (.s 19 R (.s 20 R .nil)))))) R (q_build (is := [0, 1, 2, 3, 4, 5]) (xs := [.tmp 14, .tmp 15, .tmp 17, .tmp 18, .tmp 19, .tmp 20]) (L := [SlcA kInt a1.fNodes, SlcA kEdge a1.fEdges, SlcA kInt a2.fNodes, SlcA kEdge a2.fEdges, SlcA (kSl kBool) t104, OptA kInt a3.fNodes, OptA kInt a3.fEdges, bA a4, iA a5, EqA (.slice none 0 0), EqA (.slice none 0 0), EqA (.slice none 0 0)]) R R z238 pl238 R R (.cons (qy _) (.cons (qy _) (.cons (qW R) (.cons (qy _) (.cons (qW R) (.cons (qW R) .nil)))))) R)) <| DK.nil <| CSteps.w [] R R R R (.s 21 R .nil) R (w_box R (qy _)) ?_
 rintro _ _ ⟨b105, rfl, rfl⟩
 refine CSteps.p R R R (.s 22 R .nil) R (q_assign R) <| CSteps.nil <| qw (env' := [(13, _)]) (.one R (.nil _)) <| qq <| sr <| mv R R ?_
 obtain ⟨t109, ht109, h⟩ := vw h
 refine WL.to (StTo.boxImp [0] R (.cons (Imp.id _) (.cons (Imp.id _) (.cons (Imp.id _) (.cons (Imp.id _) (.cons (Imp.id _) (.cons (Imp.id _) (.cons (Imp.id _) (.cons (Imp.id _) (.cons (Imp.id _) (.cons Imp.nilHd (.cons Imp.nilHd (.cons Imp.nilHd .nil))))))))))))) <| WL.to (StTo.newNil 3 kInt) <| WL.to (StTo.newNil 3 kInt) <| WL.to (StTo.newNil 64 kMorphism) <| WL.w [3, 2, 1, 0] R (qj R) R R (.s 23 R .nil) (w_callI (f := 191) (xs := [.tmp 23]) («as» := [EqA (.pointer (some ⟨b105, 0, none⟩))]) R ca191 (search_finder_find.con k b105 (.slice none 0 0) (.slice none 0 0) (.slice none 0 0) (Finder.mk a1 a2 t104 a3 a4 a5 [] [] []) t109 ht109) R (.cons (Imp.id _) .nil)) ?_
 rintro _ _ ⟨v110, v111, v112, rfl, rfl⟩
 refine nx <| mv R R <| p1 R 25 R (q_nilCheckP R) <| p1 R 26 R (q_fieldP R fo238_8) <| WL.q (qj R) R R (.s 27 R .nil) (q_loadB R sh133 (i := 0) R R) <| av R R <| qx <| qw (env' := [(12, _)]) (.one R (.nil _)) <| qq <| vq ?_
 cases h
 exact vW R R (.t R) (.slc 3 R)
theorem search_all.con (k : Nat) (a0 : Types) (a1 : Graph) (a2 : Graph) (a3 : OMorphism) (a4 : Bool) (r : ((List Morphism) × Int)) (h : search_all k a0 a1 a2 a3 a4 = some r) : Con Tryz.prog 125 [] [AggA [SlcA kNodeType a0.fNodes, SlcA kEdgeType a0.fEdges], AggA [SlcA kInt a1.fNodes, SlcA kEdge a1.fEdges], AggA [SlcA kInt a2.fNodes, SlcA kEdge a2.fEdges], AggA [OptA kInt a3.fNodes, OptA kInt a3.fEdges], bA a4] (RA (TupA [SlcA kMorphism r.1, iA r.2])) := by
 unfold search_all at h
 refine vJ (N := 23) Tryz.func125 R R R fun w0_ fg_ => sr <| p1 R 0 R (q_box R (qy _)) <| p1 R 1 R (q_box R (qy _)) <| p1 R 2 R (q_box R (qy _)) <| p1 R 3 R (q_box R (qy _)) <| ak R <| ak R <| nx ?_
 refine lS R R sh35 R R <| lS R R sh38 R R <| lS R R sh38 R R <| lS R R sh64 R R <| mv R R ?_
 obtain ⟨t100, ht100, h⟩ := vw h
 refine WL.p R R R (.s 13 R (.s 14 R (.s 15 R (.s 16 R (.s 17 R (.k .nil)))))) (vy (f := 170) (A := SlcA kMorphism t100) (xs := [.tmp 13, .tmp 14, .tmp 15, .tmp 16, .tmp 17, .const (.int .i64 5001)]) («as» := [AggA [SlcA kNodeType a0.fNodes, SlcA kEdgeType a0.fEdges], AggA [SlcA kInt a1.fNodes, SlcA kEdge a1.fEdges], AggA [SlcA kInt a2.fNodes, SlcA kEdge a2.fEdges], AggA [OptA kInt a3.fNodes, OptA kInt a3.fEdges], bA a4, iA 5001]) R ca170 (search_found.con k a0 a1 a2 a3 a4 5001 t100 ht100) R) <| av R R <| qx <| qw (env' := [(12, _)]) (.one R (.nil _)) <| qq <| qX <| sr <| mv R R <| p1 R 19 R (vN R elS133) <| pk R 20 R (qN R R) <| nt ?_
 refine qZ h R (fun hb101 h => ?_) (fun hb101 h => ?_)
 ·refine sr <| ak R <| ak R <| nt <| vq <| qQ ?_
  cases h
  exact QR.f2 R R (.t R) (.t R) (.imp (Imp.tup (.cons (Imp.nil kMorphism) (.cons (Imp.id _) .nil))))
 ·refine qB <| qq <| sr <| mv R R <| av R R <| ak R <| nt <| vq ?_
  cases h
  exact QR.f2 R R (.t R) (.t R) (.id _)
theorem search_All.con (k : Nat) (a0 : Types) (a1 : Graph) (a2 : Graph) (a3 : Bool) (r : ((List Morphism) × Int)) (h : search_All k a0 a1 a2 a3 = some r) : Con Tryz.prog 78 [] [AggA [SlcA kNodeType a0.fNodes, SlcA kEdgeType a0.fEdges], AggA [SlcA kInt a1.fNodes, SlcA kEdge a1.fEdges], AggA [SlcA kInt a2.fNodes, SlcA kEdge a2.fEdges], bA a3] (RA (TupA [SlcA kMorphism r.1, iA r.2])) := by
 unfold search_All at h
 refine vJ (N := 26) Tryz.func78 R R R fun w0_ fg_ => sr <| p1 R 0 R (q_box R (qy _)) <| p1 R 1 R (q_box R (qy _)) <| p1 R 2 R (q_box R (qy _)) <| ak R <| ak R <| nt <| qX <| sr ?_
 refine lS R R sh35 R R <| lS R R sh38 R R <| lS R R sh38 R R ?_
 obtain ⟨t100, ht100, h⟩ := vw h
 refine WL.p R R R (.s 11 R (.s 12 R (.s 13 R .nil))) (vy (f := 119) (A := iA t100) (xs := [.tmp 11, .tmp 12, .tmp 13]) («as» := [AggA [SlcA kNodeType a0.fNodes, SlcA kEdgeType a0.fEdges], AggA [SlcA kInt a1.fNodes, SlcA kEdge a1.fEdges], AggA [SlcA kInt a2.fNodes, SlcA kEdge a2.fEdges]]) R ca119 (search_valid.con k a0 a1 a2 t100 ht100) R) <| av R R <| qx <| qw (env' := [(10, _), (6, _), (5, _), (4, _), (3, _)]) (.o4 R (.one R (.nil _))) <| qq <| sr <| mv R R <| pk R 15 R (qN R R) <| nt ?_
 refine qZ h R (fun hb101 h => ?_) (fun hb101 h => ?_)
 ·refine sr <| mv R R <| ak R <| av R R <| qx <| qw (env' := [(9, _), (8, _)]) (.o2 R (.nil _)) <| qq <| vq <| qQ ?_
  cases h
  exact QR.f2 R R (.t R) (.t R) (.imp (Imp.tup (.cons (Imp.nil kMorphism) (.cons (Imp.id _) .nil))))
 ·refine qB <| qq <| sr <| lS R R sh35 R R <| lS R R sh38 R R <| lS R R sh38 R R <| WL.p R R R .nil (q_build (is := []) (xs := []) (L := [EqA (.slice none 0 0), EqA (.slice none 0 0)]) R R z64 pl64 R R .nil R) <| mv R R ?_
  obtain ⟨t102, ht102, h⟩ := vw h
  refine WL.p R R R (.s 18 R (.s 19 R (.s 20 R (.s 21 R (.s 22 R .nil))))) (q_callI (f := 125) (A := TupA [SlcA kMorphism t102.1, iA t102.2]) (xs := [.tmp 18, .tmp 19, .tmp 20, .tmp 21, .tmp 22]) («as» := [AggA [SlcA kNodeType a0.fNodes, SlcA kEdgeType a0.fEdges], AggA [SlcA kInt a1.fNodes, SlcA kEdge a1.fEdges], AggA [SlcA kInt a2.fNodes, SlcA kEdge a2.fEdges], AggA [EqA (.slice none 0 0), EqA (.slice none 0 0)], bA a3]) R ca125 (search_all.con k a0 a1 a2 (OMorphism.mk none none) a3 t102 ht102) R (.cons (Imp.id _) (.cons (Imp.id _) (.cons (Imp.id _) (.cons (Imp.agg (.cons (Imp.optN kInt) (.cons (Imp.optN kInt) .nil))) (.cons (Imp.id _) .nil)))))) <| p1 R 23 R (vV R R) <| p1 R 23 R (vV R R) <| av R R <| av R R <| qx <| qw (env' := [(9, _), (8, _)]) (.o2 R (.nil _)) <| qq <| vq ?_
  cases h
  exact QR.f2 R R (.t R) (.t R) (.id _)
theorem attribute_value.con (k : Nat) (a0 : Term) (a1 : (List Int)) (r : Int) (h : attribute_value k a0 a1 = some r) : Con Tryz.prog 41 [] [AggA [iA a0.fVar, iA a0.fAdd], SlcA kInt a1] (RA (iA r)) := by
 unfold attribute_value at h
 refine vJ (N := 18) Tryz.func41 R R R fun w0_ fg_ => sr <| p1 R 0 R (q_box R (qy _)) <| ak R <| nt <| qX <| sr <| fd R R fo23_0 R <| ld R R sh3 <| pk R 6 R (qN R R) ?_
 refine nt ?_
 refine qZ h R (fun hb100 h => ?_) (fun hb100 h => ?_)
 ·refine sr <| fd R R fo23_1 R <| ld R R sh3 <| av R R <| qx <| qw (env' := [(4, _)]) (.one R (.nil _)) <| qq <| vq <| qQ ?_
  cases h
  exact vW R R (.t R) (.id _)
 ·refine qB <| qq <| qX <| W.drawK [(0, false), (1, false), (2, false), (3, false), (4, false), (5, false), (6, false), (7, false), (8, false)] [] (bm [0, 0, 2, 7, 15, 0, 32, 127, 255]) mx (by kernel_rfl) <| dm R R R <| df R R R fo23_0 R <| dl R R R sh3 ?_
  obtain ⟨c105, h⟩ := qK h
  refine qz R R (.p R (.s 10 R (.s 12 R .nil)) R (vX R el26 R c105.1 c105.2)) <| dl R R R sh3 <| df R R R fo23_1 R <| dl R R R sh3 ?_
  obtain ⟨c106, h⟩ := qK h
  refine qz R R (.p R (.s 14 R (.s 16 R .nil)) R (vK R c106)) <| qz R R (.p R (.s 17 R .nil) R (q_assign R)) <| DK.nil <| CSteps.nil <| qw (env' := [(4, _)]) (.one R (.nil _)) <| qq <| vq ?_
  cases h
  exact vW R R (.t R) (.id _)
theorem difference_wide.con (k : Nat) (a0 : Int) (a1 : Int) (r : (Int × Int)) (h : difference_wide k a0 a1 = some r) : Con Tryz.prog 164 [] [iA a0, iA a1] (RA (TupA [iA r.1, EqA (.int .u64 r.2)])) := by
 unfold difference_wide at h
 refine vJ (N := 25) Tryz.func164 R R R fun w0_ fg_ => sr <| ak R <| ak R <| nx <| mv R R <| p1 R 9 R (q_conv R cv206 cvS3) <| mv R R <| p1 R 11 R (q_conv R cv206 cvS3) ?_
 obtain ⟨c100, h⟩ := qK h
 refine WL.p R R R (.s 10 R (.s 12 R (.k .nil))) (q_add64 (f := 188) R Tryz.func188 (by kernel_rfl) R (by kernel_rfl) ad188 c100.1 c100.2.1 c100.2.2.1 c100.2.2.2) <| mv R R <| p1 R 8 R (vV R R) <| p1 R 8 R (vV R R) <| av R R <| av R R <| qx <| qw (env' := [(7, _), (6, _), (1, _), (0, _)]) (.o4 R (.nil _)) <| qq <| sr <| mv R R <| pk R 16 R (q_shrN R (by decide)) ?_
 refine mv R R <| pk R 18 R (q_shrN R (by decide)) ?_
 obtain ⟨c101, h⟩ := qK h
 refine p2 R 17 R 19 R (vK R c101) <| mv R R <| p1 R 21 R (q_conv R cv3 cvS206) ?_
 obtain ⟨c102, h⟩ := qK h
 refine p2 R 20 R 22 R (vK R c102) <| mv R R <| av R R <| av R R <| qx <| qw (env' := [(5, _), (4, _)]) (.o2 R (.nil _)) <| qq <| vq ?_
 cases h
 exact QR.f2 R R (.t R) (.t R) (.id _)
theorem difference_Holds_1.con (k : Nat) (a0 : Term) (a1 : (List Int)) (r : (Int × Int × Bool)) (h : difference_Holds_1 k a0 a1 = some r) : Con Tryz.prog 163 [] [AggA [iA a0.fVar, iA a0.fAdd], PtrA [SlcA kInt a1]] (RA (TupA [iA r.1, EqA (.int .u64 r.2.1), bA r.2.2])) := by
 unfold difference_Holds_1 at h
 refine vJ (N := 46) Tryz.func163 R R R fun w0_ fg_ => sr <| p1 R 0 R (q_box R (qy _)) <| ak R <| ak R <| ak R <| nt <| qX <| vx <| sr ?_
 refine fd R R fo23_0 R <| ld R R sh3 <| pk R 12 R (qN R R) <| av R R <| qx <| qw (env' := [(10, _), (2, _), (1, _)]) (.o2 R (.one R (.nil _))) <| qq ?_
 refine qZ h R (fun hb100 h => ?_) (fun hb100 h => ?_)
 ·refine sr <| fd R R fo23_1 R <| ld R R sh3 ?_
  obtain ⟨t101, ht101, h⟩ := vw h
  refine WL.p R R R (.k (.s 16 R .nil)) (vy (f := 164) (A := TupA [iA t101.1, EqA (.int .u64 t101.2)]) (xs := [.const (.int .i64 0), .tmp 16]) («as» := [iA 0, iA a0.fAdd]) R ca164 (difference_wide.con k 0 a0.fAdd t101 ht101) R) <| mv R R <| p1 R 14 R (vV R R) <| p1 R 14 R (vV R R) <| av R R <| av R R <| qx <| qw (env' := [(7, _), (6, _)]) (.o2 R (.nil _)) <| qq <| sr <| mv R R <| mv R R ?_
  refine av R R <| av R R <| ak R <| nt <| vq <| vz <| qQ ?_
  cases h
  exact QR.f3 R R (.t R) (.t R) (.t R) (.id _)
 ·refine qX ?_
  refine W.jn1 (Γ := Unit) (fun (_ : Unit) (x22 : Bool) => [(1, PtrA [SlcA kInt a1]), (2, PtrA [iA a0.fVar, iA a0.fAdd]), (22, bA x22)]) (fun (_ : Unit) (_ : Bool) => []) h (fun _ x22 h => ?_) (fun j104 Kj104 h => ?_)
  ·refine qq ?_
   refine qZ h R (fun hb105 h => ?_) (fun hb105 h => ?_)
   ·refine sr <| ak R <| ak R <| ak R <| nt <| vq <| vz <| qQ ?_
    cases h
    exact QR.f3 R R (.t R) (.t R) (.t R) (.id _)
   ·refine qB <| vZ <| qq <| qX <| W.drawK [(0, false), (1, false), (2, false), (3, false), (4, false), (5, false), (6, false), (7, false), (8, false), (9, false), (10, false), (11, false), (12, false)] [] (bm [0, 0, 2, 7, 15, 0, 32, 127, 255, 511, 511, 1023, 4095]) mx (by kernel_rfl) <| dl R R R sh26 <| df R R R fo23_0 R <| dl R R R sh3 ?_
    obtain ⟨c110, h⟩ := qK h
    refine qz R R (.p R (.s 34 R (.s 36 R .nil)) R (vX R el26 R c110.1 c110.2)) <| dl R R R sh3 <| df R R R fo23_1 R <| dl R R R sh3 ?_
    obtain ⟨t111, ht111, h⟩ := vw h
    refine qz R R (.p R (.s 38 R (.s 40 R .nil)) R (vy (f := 164) (A := TupA [iA t111.1, EqA (.int .u64 t111.2)]) (xs := [.tmp 38, .tmp 40]) («as» := [iA (rd a1 a0.fVar), iA a0.fAdd]) R ca164 (difference_wide.con k (rd a1 a0.fVar) a0.fAdd t111 ht111) R)) <| dm R R R <| qz R R (.p R (.s 33 R .nil) R (vV R R)) <| qz R R (.p R (.s 33 R .nil) R (vV R R)) <| qz R R (.p R (.s 42 R .nil) R (q_assign R)) <| qz R R (.p R (.s 43 R .nil) R (q_assign R)) <| DK.nil <| CSteps.nil <| qw (env' := [(9, _), (8, _)]) (.o2 R (.nil _)) <| qq <| sr <| mv R R ?_
    refine mv R R <| av R R <| av R R <| ak R <| nt <| vq ?_
    cases h
    exact QR.f3 R R (.t R) (.t R) (.t R) (.id _)
  ·refine qJ <| fd R R fo23_0 R <| ld R R sh3 <| pk R 24 R (qN R R) <| mv R R ?_
   rcases bif_s h with ⟨hb112, h⟩ | ⟨hb112, h⟩
   ·refine sk R R R hb112 <| sk R R R hb112 <| sk R R R hb112 <| sk R R R hb112 <| sk R R R hb112 <| pk R 26 R (vQ R hb112) <| av R R <| qx ?_
    exact qw (.o2 R (.one R (.nil _))) (Kj104 () true h)
   ·refine wf R R R hb112 R R fo23_0 R <| wl R R R hb112 R R sh3 <| wl R R R hb112 R R sh26 <| wq R R R hb112 (.s 29 R .nil) (vN R elS26).o <| wq R R R hb112 (.s 28 R (.s 30 R .nil)) (qN R R).o <| p2 R 26 R 31 R (vj R hb112) <| av R R <| qx ?_
    exact qw (.o2 R (.one R (.nil _))) (Kj104 () (decide (a0.fVar ≥ (a1.length : Int))) h)
theorem cmp_isNaN_int.con (k : Nat) (a0 : Int) (r : Bool) (h : cmp_isNaN_int k a0 = some r) : Con Tryz.prog 189 [] [iA a0] (RA (bA r)) := by
 unfold cmp_isNaN_int at h
 refine vJ (N := 6) Tryz.func189 R R R fun w0_ fg_ => sr <| ak R <| nx <| mv R R <| mv R R <| p2 R 3 R 4 R (qN R R) <| av R R <| qx ?_
 refine qq <| vq ?_
 cases h
 exact vW R R (.t R) (.id _)
theorem cmp_Compare_int.con (k : Nat) (a0 : Int) (a1 : Int) (r : Int) (h : cmp_Compare_int k a0 a1 = some r) : Con Tryz.prog 166 [] [iA a0, iA a1] (RA (iA r)) := by
 unfold cmp_Compare_int at h
 refine vJ (N := 20) Tryz.func166 R R R fun w0_ fg_ => sr <| ak R <| nx <| mv R R ?_
 obtain ⟨t100, ht100, h⟩ := vw h
 refine p1 R 7 R (vy (f := 189) (A := bA t100) (xs := [.tmp 7]) («as» := [iA a0]) R ca189 (cmp_isNaN_int.con k a0 t100 ht100) R) <| av R R <| nx <| mv R R ?_
 obtain ⟨t101, ht101, h⟩ := vw h
 refine p1 R 9 R (vy (f := 189) (A := bA t101) (xs := [.tmp 9]) («as» := [iA a1]) R ca189 (cmp_isNaN_int.con k a1 t101 ht101) R) <| av R R <| nt <| qX <| sr <| mv R R <| nt ?_
 refine qZ h R (fun hb102 h => ?_) (fun hb102 h => ?_)
 ·refine qX <| sr <| mv R R <| qx <| qw (env' := [(12, _)]) (.one R (.nil _)) <| qq ?_
  refine qZ h R (fun hb103 h => ?_) (fun hb103 h => ?_)
  ·refine sr <| ak R <| nt <| vq <| qQ <| qQ ?_
   cases h
   exact vW R R (.t R) (.id _)
  ·refine qB <| qq <| sr <| ak R <| nt <| vq <| qQ ?_
   cases h
   exact vW R R (.t R) (.id _)
 ·refine qB <| qw (env' := [(6, _), (1, _), (0, _)]) (.o2 R (.one R (.nil _))) <| qq <| qX <| sr <| mv R R <| nt ?_
  refine qZ h R (fun hb104 h => ?_) (fun hb104 h => ?_)
  ·refine sr <| ak R <| nt <| vq <| qQ ?_
   cases h
   exact vW R R (.t R) (.id _)
  ·refine qB <| qq <| qX <| sr <| mv R R <| mv R R <| p2 R 14 R 15 R (qN R R) <| nt ?_
   refine qZ h R (fun hb105 h => ?_) (fun hb105 h => ?_)
   ·refine sr <| ak R <| qx <| qw (env' := [(4, _)]) (.one R (.nil _)) <| qq <| vq <| qQ ?_
    cases h
    exact vW R R (.t R) (.id _)
   ·refine qB <| qq <| qX <| sr <| mv R R <| mv R R <| p2 R 17 R 18 R (qN R R) <| qx <| qw (env' := [(19, _)]) (.one R (.nil _)) <| qq ?_
    refine qZ h R (fun hb106 h => ?_) (fun hb106 h => ?_)
    ·refine sr <| ak R <| nt <| vq <| qQ ?_
     cases h
     exact vW R R (.t R) (.id _)
    ·refine qB <| qq <| sr <| ak R <| nt <| vq ?_
     cases h
     exact vW R R (.t R) (.id _)
theorem cmp_isNaN_uint64.con (k : Nat) (a0 : Int) (r : Bool) (h : cmp_isNaN_uint64 k a0 = some r) : Con Tryz.prog 190 [] [EqA (.int .u64 a0)] (RA (bA r)) := by
 unfold cmp_isNaN_uint64 at h
 refine vJ (N := 6) Tryz.func190 R R R fun w0_ fg_ => sr <| ak R <| nx <| mv R R <| mv R R <| p2 R 3 R 4 R (qN R R) <| av R R <| qx ?_
 refine qq <| vq ?_
 cases h
 exact vW R R (.t R) (.id _)
theorem cmp_Compare_uint64.con (k : Nat) (a0 : Int) (a1 : Int) (r : Int) (h : cmp_Compare_uint64 k a0 a1 = some r) : Con Tryz.prog 167 [] [EqA (.int .u64 a0), EqA (.int .u64 a1)] (RA (iA r)) := by
 unfold cmp_Compare_uint64 at h
 refine vJ (N := 20) Tryz.func167 R R R fun w0_ fg_ => sr <| ak R <| nx <| mv R R ?_
 obtain ⟨t100, ht100, h⟩ := vw h
 refine p1 R 7 R (vy (f := 190) (A := bA t100) (xs := [.tmp 7]) («as» := [EqA (.int .u64 a0)]) R ca190 (cmp_isNaN_uint64.con k a0 t100 ht100) R) <| av R R <| nx <| mv R R ?_
 obtain ⟨t101, ht101, h⟩ := vw h
 refine p1 R 9 R (vy (f := 190) (A := bA t101) (xs := [.tmp 9]) («as» := [EqA (.int .u64 a1)]) R ca190 (cmp_isNaN_uint64.con k a1 t101 ht101) R) <| av R R <| nt <| qX <| sr <| mv R R <| nt ?_
 refine qZ h R (fun hb102 h => ?_) (fun hb102 h => ?_)
 ·refine qX <| sr <| mv R R <| qx <| qw (env' := [(12, _)]) (.one R (.nil _)) <| qq ?_
  refine qZ h R (fun hb103 h => ?_) (fun hb103 h => ?_)
  ·refine sr <| ak R <| nt <| vq <| qQ <| qQ ?_
   cases h
   exact vW R R (.t R) (.id _)
  ·refine qB <| qq <| sr <| ak R <| nt <| vq <| qQ ?_
   cases h
   exact vW R R (.t R) (.id _)
 ·refine qB <| qw (env' := [(6, _), (1, _), (0, _)]) (.o2 R (.one R (.nil _))) <| qq <| qX <| sr <| mv R R <| nt ?_
  refine qZ h R (fun hb104 h => ?_) (fun hb104 h => ?_)
  ·refine sr <| ak R <| nt <| vq <| qQ ?_
   cases h
   exact vW R R (.t R) (.id _)
  ·refine qB <| qq <| qX <| sr <| mv R R <| mv R R <| p2 R 14 R 15 R (qN R R) <| nt ?_
   refine qZ h R (fun hb105 h => ?_) (fun hb105 h => ?_)
   ·refine sr <| ak R <| qx <| qw (env' := [(4, _)]) (.one R (.nil _)) <| qq <| vq <| qQ ?_
    cases h
    exact vW R R (.t R) (.id _)
   ·refine qB <| qq <| qX <| sr <| mv R R <| mv R R <| p2 R 17 R 18 R (qN R R) <| qx <| qw (env' := [(19, _)]) (.one R (.nil _)) <| qq ?_
    refine qZ h R (fun hb106 h => ?_) (fun hb106 h => ?_)
    ·refine sr <| ak R <| nt <| vq <| qQ ?_
     cases h
     exact vW R R (.t R) (.id _)
    ·refine qB <| qq <| sr <| ak R <| nt <| vq ?_
     cases h
     exact vW R R (.t R) (.id _)
theorem cmp_Or_int.con (k : Nat) (a0 : (List Int)) (r : Int) (h : cmp_Or_int k a0 = some r) : Con Tryz.prog 165 [] [SlcA kInt a0] (RA (iA r)) := by
 unfold cmp_Or_int at h
 refine vJ (N := 18) Tryz.func165 R R R fun w0_ fg_ => sr <| ak R <| nx <| ak R <| nt <| qX <| qX ?_
 refine qJ <| mv R R <| p1 R 6 R (vN R elS26) <| mk_ R <| nt <| vx ?_
 refine W.loop1 (Γ := Unit) (fun (_ : Unit) (x8 : Int) => [(3, iA 0), (6, SlcA kInt a0), (7, iA (a0.length : Int)), (8, iA x8)]) (fun (_ : Unit) (_ : Int) => []) h () (.o4 R (.nil _)) R (fun rec0 K0 next0 _ x8 h => ?_)
 unfold cmp_Or_int.b0 at h
 refine sr <| p2 R 8 R 7 R (qN R R) <| nt <| qX ?_
 refine qZ h R (fun hb108 h => ?_) (fun hb108 h => ?_)
 ·refine qB <| qq <| qX <| vx <| sr ?_
  obtain ⟨c109, h⟩ := qK h
  refine p2 R 6 R 8 R (vX R el26 R c109.1 c109.2) <| ld R R sh3 <| av R R <| nx <| mv R R <| mv R R <| p2 R 12 R 13 R (qN R R) <| nt ?_
  refine qZ h R (fun hb110 h => ?_) (fun hb110 h => ?_)
  ·refine sr <| mv R R <| av R R <| qx <| qw (env' := [(2, _)]) (.one R (.nil _)) <| qq <| vq <| vz <| qQ <| qQ <| vz <| qQ ?_
   cases h
   exact vW R R (.t R) (.id _)
  ·refine qB <| vZ <| qw (env' := [(8, _), (7, _), (6, _), (3, _)]) (.o4 R (.nil _)) <| qq <| qJ ?_
   obtain ⟨c111, h⟩ := qK h
   refine pk R 8 R (vK R c111) <| mv R R <| qx ?_
   exact next0 () (x8 + 1) _ h (.o4 R (.nil _))
 ·refine W.exit <| qV <| qV <| vB <| qq <| sr <| mv R R <| av R R <| nt <| vq ?_
  cases h
  exact vW R R (.t R) (.id _)
theorem difference_Holds.con (k : Nat) (a0 : Test) (a1 : (List Int)) (r : Bool) (h : difference_Holds k a0 a1 = some r) : Con Tryz.prog 122 [] [AggA [iA a0.fKind, iA a0.fLeft.fVar, iA a0.fLeft.fAdd, iA a0.fRight.fVar, iA a0.fRight.fAdd], SlcA kInt a1] (RA (bA r)) := by
 unfold difference_Holds at h
 refine vJ (N := 60) Tryz.func122 R R R fun w0_ fg_ => sr <| p1 R 0 R (q_box R (qy _)) <| p1 R 1 R (q_box R (qW R)) <| ak R <| nx <| p1 R 3 R (q_makeFunc (xs := [.tmp 3]) (L := [PtrA [SlcA kInt a1]]) («as» := (fun (x : Term) => [AggA [iA x.fVar, iA x.fAdd]])) (res := (fun (y : (Int × Int × Bool)) => TupA [iA y.1, EqA (.int .u64 y.2.1), bA y.2.2])) (p := (fun x => difference_Holds_1 k x a1)) R ca163 R (fun x y hp => (difference_Holds_1.con k x a1 y hp))) <| av R R <| qx ?_
 refine qq <| sr <| mv R R <| fd R R fo86_1 R <| lS R R sh23 R R ?_
 obtain ⟨t100, ht100, h⟩ := vw h
 refine p2 R 15 R 17 R (q_callV («as» := (fun (x : Term) => [AggA [iA x.fVar, iA x.fAdd]])) (res := (fun (y : (Int × Int × Bool)) => TupA [iA y.1, EqA (.int .u64 y.2.1), bA y.2.2])) (x := a0.fLeft) (y := t100) (xs := [.tmp 17]) R ht100 R) <| mv R R <| p1 R 14 R (vV R R) <| p1 R 14 R (vV R R) <| p1 R 14 R (vV R R) <| av R R <| av R R <| av R R <| qx <| qw (env' := [(8, _), (7, _), (6, _), (5, _), (2, _)]) (.o4 R (.one R (.nil _))) <| qq <| sr ?_
 refine mv R R <| fd R R fo86_2 R <| lS R R sh23 R R ?_
 obtain ⟨t101, ht101, h⟩ := vw h
 refine p2 R 23 R 25 R (q_callV («as» := (fun (x : Term) => [AggA [iA x.fVar, iA x.fAdd]])) (res := (fun (y : (Int × Int × Bool)) => TupA [iA y.1, EqA (.int .u64 y.2.1), bA y.2.2])) (x := a0.fRight) (y := t101) (xs := [.tmp 25]) R ht101 R) <| mv R R <| p1 R 22 R (vV R R) <| p1 R 22 R (vV R R) <| p1 R 22 R (vV R R) <| av R R <| av R R <| av R R <| qx <| qw (env' := [(11, _), (10, _), (9, _), (8, _), (7, _), (6, _), (2, _)]) (.o4 R (.o2 R (.one R (.nil _)))) <| qq <| qX <| qX ?_
 refine W.jn1 (Γ := Unit) (fun (_ : Unit) (x35 : Bool) => [(2, PtrA [iA a0.fKind, iA a0.fLeft.fVar, iA a0.fLeft.fAdd, iA a0.fRight.fVar, iA a0.fRight.fAdd]), (6, iA t100.1), (7, EqA (.int .u64 t100.2.1)), (9, iA t101.1), (10, EqA (.int .u64 t101.2.1)), (35, bA x35)]) (fun (_ : Unit) (_ : Bool) => []) h (fun _ x35 h => ?_) (fun j104 Kj104 h => ?_)
 ·refine qq ?_
  refine qZ h R (fun hb105 h => ?_) (fun hb105 h => ?_)
  ·refine sr <| ak R <| nt <| vq <| qQ ?_
   cases h
   exact vW R R (.t R) (.id _)
  ·refine qB <| qq <| sr <| mv R R <| mv R R ?_
   obtain ⟨t106, ht106, h⟩ := vw h
   refine p2 R 36 R 37 R (vy (f := 166) (A := iA t106) (xs := [.tmp 36, .tmp 37]) («as» := [iA t100.1, iA t101.1]) R ca166 (cmp_Compare_int.con k t100.1 t101.1 t106 ht106) R) <| mv R R <| mv R R ?_
   obtain ⟨t107, ht107, h⟩ := vw h
   refine p2 R 39 R 40 R (vy (f := 167) (A := iA t107) (xs := [.tmp 39, .tmp 40]) («as» := [EqA (.int .u64 t100.2.1), EqA (.int .u64 t101.2.1)]) R ca167 (cmp_Compare_uint64.con k t100.2.1 t101.2.1 t107 ht107) R) <| p2 R 38 R 41 R (q_lit (kd := kInt) (ps := [(0, .tmp 38), (1, .tmp 41)]) (xs := [.tmp 38, .tmp 41]) («as» := [iA t106, iA t107]) (ys := [t106, t107]) R R el26 R gr3 R R R (.cons (qW R) (.cons (qW R) .nil))) ?_
   obtain ⟨t108, ht108, h⟩ := vw h
   refine p1 R 42 R (vy (f := 165) (A := iA t108) (xs := [.tmp 42]) («as» := [SlcA kInt [t106, t107]]) R ca165 (cmp_Or_int.con k [t106, t107] t108 ht108) R) <| av R R <| qx <| qw (env' := [(12, _), (2, _)]) (.o2 R (.nil _)) <| qq <| qX ?_
   refine W.jn1 (Γ := Unit) (fun (_ : Unit) (x4 : Bool) => [(4, bA x4)]) (fun (_ : Unit) (_ : Bool) => []) h (fun _ x4 h => ?_) (fun j114 Kj114 h => ?_)
   ·refine qq <| vq ?_
    cases h
    exact vW R R (.t R) (.id _)
   ·refine qJ <| fd R R fo86_0 R <| ld R R sh3 <| pk R 45 R (qN R R) <| mv R R ?_
    rcases bif_s h with ⟨hb115, h⟩ | ⟨hb115, h⟩
    ·refine wm R R R hb115 R R <| wq R R R hb115 (.s 48 R (.k .nil)) (qN R R).o <| p2 R 47 R 49 R (vQ R hb115) <| mv R R ?_
     rcases bif_s h with ⟨hb116, h⟩ | ⟨hb116, h⟩
     ·refine sk R R R hb116 <| sk R R R hb116 <| sk R R R hb116 <| sk R R R hb116 <| su R R R <| su R R R <| sk R R R hb116 <| pk R 51 R (vQ R hb116) <| av R R <| qx ?_
      exact qw (.one R (.nil _)) (Kj114 () true h)
     ·refine wf R R R hb116 R R fo86_0 R <| wl R R R hb116 R R sh3 <| wq R R R hb116 (.s 53 R (.k .nil)) (qN R R).o <| wm R R R hb116 R R ?_
      rcases bif_s h with ⟨hb117, h⟩ | ⟨hb117, h⟩
      ·refine wm R R R hb117 R R <| wq R R R hb117 (.s 56 R (.k .nil)) (qN R R).o <| wq R R R hb116 (.s 55 R (.s 57 R .nil)) (vQ R hb117).o <| p2 R 51 R 58 R (vj R hb116) <| av R R <| qx ?_
       exact qw (.one R (.nil _)) (Kj114 () (t108 == 0) h)
      ·refine sk R R R hb117 <| sk R R R hb117 <| wq R R R hb116 (.s 55 R (.k .nil)) (vj R hb117).o <| p2 R 51 R 58 R (vj R hb116) <| av R R <| qx ?_
       exact qw (.one R (.nil _)) (Kj114 () false h)
    ·refine sk R R R hb115 <| sk R R R hb115 <| pk R 47 R (vj R hb115) <| mv R R <| wf R R R R R R fo86_0 R <| wl R R R R R R sh3 <| wq R R R R (.s 53 R (.k .nil)) (qN R R).o <| wm R R R R R R ?_
     rcases bif_s h with ⟨hb118, h⟩ | ⟨hb118, h⟩
     ·refine wm R R R hb118 R R <| wq R R R hb118 (.s 56 R (.k .nil)) (qN R R).o <| wq R R R R (.s 55 R (.s 57 R .nil)) (vQ R hb118).o <| p2 R 51 R 58 R (vj R R) <| av R R <| qx ?_
      exact qw (.one R (.nil _)) (Kj114 () (t108 == 0) h)
     ·refine sk R R R hb118 <| sk R R R hb118 <| wq R R R R (.s 55 R (.k .nil)) (vj R hb118).o <| p2 R 51 R 58 R (vj R R) <| av R R <| qx ?_
      exact qw (.one R (.nil _)) (Kj114 () false h)
 ·refine qJ <| mv R R <| p1 R 30 R (q_not R) <| mv R R ?_
  rcases bif_s h with ⟨hb119, h⟩ | ⟨hb119, h⟩
  ·refine sk R R R hb119 <| sk R R R hb119 <| pk R 32 R (vQ R hb119) <| qx ?_
   exact qw (.o4 R (.o2 R (.nil _))) (Kj104 () true h)
  ·refine wm R R R hb119 R R <| wq R R R hb119 (.s 33 R .nil) (q_not R).o <| p2 R 32 R 34 R (vj R hb119) <| qx ?_
   exact qw (.o4 R (.o2 R (.nil _))) (Kj104 () (!t101.2.2) h)
theorem attribute_solve.con (k : Nat) (a0 : Pattern) (a1 : Host) (a2 : Morphism) (r : ((List Int) × Int)) (h : attribute_solve k a0 a1 a2 = some r) : Con Tryz.prog 74 [] [AggA [SlcA kInt a0.fGraph.fNodes, SlcA kEdge a0.fGraph.fEdges, SlcA kSlot a0.fSlots, iA a0.fVars, SlcA kTest a0.fTests], AggA [SlcA kInt a1.fGraph.fNodes, SlcA kEdge a1.fGraph.fEdges, SlcA (kSl kInt) a1.fValues], AggA [SlcA kInt a2.fNodes, SlcA kInt a2.fEdges]] (RA (TupA [SlcA kInt r.1, iA r.2])) := by
 unfold attribute_solve at h
 refine vJ (N := 86) Tryz.func74 R R R fun w0_ fg_ => sr <| p1 R 0 R (q_box R (qy _)) <| p1 R 1 R (q_box R (qy _)) <| p1 R 2 R (q_box R (qy _)) <| ak R <| ak R <| nt <| qX ?_
 refine W.jn0 (Γ := (Value × Value)) (fun (g108 : (Value × Value)) => [(3, PtrA [SlcA kInt a0.fGraph.fNodes, SlcA kEdge a0.fGraph.fEdges, SlcA kSlot a0.fSlots, iA a0.fVars, SlcA kTest a0.fTests]), (4, PtrA [SlcA kInt a1.fGraph.fNodes, SlcA kEdge a1.fGraph.fEdges, SlcA (kSl kInt) a1.fValues]), (5, PtrA [SlcA kInt a2.fNodes, SlcA kInt a2.fEdges]), (8, HdA g108.1), (9, HdA g108.2)]) (fun (g108 : (Value × Value)) => [SlE 3 g108.1 kInt (List.replicate (a0.fVars : Int).toNat (0 : Int)), SlE 4 g108.2 kBool (List.replicate (a0.fVars : Int).toNat false)]) h (fun g108 h => ?_) (fun j113 Kj113 h => ?_)
 ·refine qq <| qX <| sr <| fd R R fo42_1 R <| ld R R sh39 <| p1 R 23 R (vN R elS39) <| mk_ R <| nt <| vx ?_
  refine W.loop3 (Γ := Unit) (fun (_ : Unit) (_ : (List Int)) (_ : (List Bool)) (x25 : Int) => [(3, PtrA [SlcA kInt a0.fGraph.fNodes, SlcA kEdge a0.fGraph.fEdges, SlcA kSlot a0.fSlots, iA a0.fVars, SlcA kTest a0.fTests]), (4, PtrA [SlcA kInt a1.fGraph.fNodes, SlcA kEdge a1.fGraph.fEdges, SlcA (kSl kInt) a1.fValues]), (5, PtrA [SlcA kInt a2.fNodes, SlcA kInt a2.fEdges]), (8, HdA g108.1), (9, HdA g108.2), (23, SlcA kSlot a0.fSlots), (24, iA (a0.fSlots.length : Int)), (25, iA x25)]) (fun (_ : Unit) (x8 : (List Int)) (x9 : (List Bool)) (_ : Int) => [SlE 3 g108.1 kInt x8, SlE 4 g108.2 kBool x9]) h () (.o4 R (.o4 R (.nil _))) R (fun rec0 K0 next0 _ x8 x9 x25 h => ?_)
  unfold attribute_solve.b0 at h
  refine sr <| p2 R 25 R 24 R (qN R R) <| nt <| qX ?_
  refine qZ h R (fun hb212 h => ?_) (fun hb212 h => ?_)
  ·refine qB <| qq <| qX <| vx <| sr ?_
   obtain ⟨c213, h⟩ := qK h
   refine p2 R 23 R 25 R (vX R el39 R c213.1 c213.2) <| lS R R sh113 R R <| WL.w [] R (qj R) R R .nil (w_alloc R z113 (l := [iA 0, iA 0, iA 0, iA 0]) R) ?_
   rintro _ _ ⟨b214, rfl, rfl⟩
   refine WL.w0 [0] R (qj R) R (.s 11 R (.s 28 R .nil)) (w_store (L := [iA ((rd a0.fSlots x25).fNode), iA ((rd a0.fSlots x25).fAttr), iA ((rd a0.fSlots x25).fTerm.fVar), iA ((rd a0.fSlots x25).fTerm.fAdd)]) R sh113 (qy _) R R (leB R) R) ?_
   rintro _ _ ⟨rfl, rfl⟩
   refine qx <| QN.to (StTo.still [0] 11 R R) <| qq <| qX <| W.drawK [(0, false), (1, false), (2, false), (3, false), (4, false), (5, false), (6, false), (7, false), (8, false), (9, false), (10, false), (11, false), (12, false), (13, false), (14, false)] [] (bm [0, 1, 0, 4, 0, 16, 60, 124, 255, 511, 0, 1024, 4095, 8191, 16383]) mx (by kernel_rfl) <| df R R R fo60_1 R <| dl R R R sh58 <| df R R R fo64_0 R <| dl R R R sh26 <| df R R R fo113_0 R <| dl R R R sh3 ?_
   obtain ⟨c221, h⟩ := qK h
   refine qz R R (.p R (.s 32 R (.s 34 R .nil)) R (vX R el26 R c221.1 c221.2)) <| dl R R R sh3 ?_
   obtain ⟨c222, h⟩ := qK h
   refine qz R R (.p R (.s 30 R (.s 36 R .nil)) R (vX R el58 R c222.1 c222.2)) <| dl R R R sh26 <| df R R R fo113_1 R <| dl R R R sh3 ?_
   obtain ⟨c223, h⟩ := qK h
   refine qz R R (.p R (.s 38 R (.s 40 R .nil)) R (vX R el26 R c223.1 c223.2)) <| dl R R R sh3 <| qz R R (.p R (.s 42 R .nil) R (q_assign R)) <| DK.nil <| CSteps.nil <| qw (env' := [(12, _), (11, _), (25, _), (24, _), (23, _), (9, _), (8, _), (5, _), (4, _), (3, _)]) (.o4 R (.o4 R (.o2 R (.nil _)))) <| qq <| qX <| sr <| fd R R fo113_2 R <| fd R R fo23_0 R <| ld R R sh3 ?_
   refine av R R <| nt <| qX ?_
   refine W.jn1 (Γ := Unit) (fun (_ : Unit) (x54 : Bool) => [(3, PtrA [SlcA kInt a0.fGraph.fNodes, SlcA kEdge a0.fGraph.fEdges, SlcA kSlot a0.fSlots, iA a0.fVars, SlcA kTest a0.fTests]), (4, PtrA [SlcA kInt a1.fGraph.fNodes, SlcA kEdge a1.fGraph.fEdges, SlcA (kSl kInt) a1.fValues]), (5, PtrA [SlcA kInt a2.fNodes, SlcA kInt a2.fEdges]), (8, HdA g108.1), (9, HdA g108.2), (23, SlcA kSlot a0.fSlots), (24, iA (a0.fSlots.length : Int)), (25, iA x25), (11, PtrA [iA ((rd a0.fSlots x25).fNode), iA ((rd a0.fSlots x25).fAttr), iA ((rd a0.fSlots x25).fTerm.fVar), iA ((rd a0.fSlots x25).fTerm.fAdd)]), (12, iA (rd (rd a1.fValues (rd a2.fNodes ((rd a0.fSlots x25).fNode))) ((rd a0.fSlots x25).fAttr))), (13, iA ((rd a0.fSlots x25).fTerm.fVar)), (54, bA x54)]) (fun (_ : Unit) (_ : Bool) => [SlE 3 g108.1 kInt x8, SlE 4 g108.2 kBool x9]) h (fun _ x54 h => ?_) (fun j227 Kj227 h => ?_)
   ·refine qq ?_
    refine W.jn2 (Γ := Unit) (fun (_ : Unit) (_ : (List Int)) (_ : (List Bool)) => [(3, PtrA [SlcA kInt a0.fGraph.fNodes, SlcA kEdge a0.fGraph.fEdges, SlcA kSlot a0.fSlots, iA a0.fVars, SlcA kTest a0.fTests]), (4, PtrA [SlcA kInt a1.fGraph.fNodes, SlcA kEdge a1.fGraph.fEdges, SlcA (kSl kInt) a1.fValues]), (5, PtrA [SlcA kInt a2.fNodes, SlcA kInt a2.fEdges]), (8, HdA g108.1), (9, HdA g108.2), (23, SlcA kSlot a0.fSlots), (24, iA (a0.fSlots.length : Int)), (25, iA x25), (11, PtrA [iA ((rd a0.fSlots x25).fNode), iA ((rd a0.fSlots x25).fAttr), iA ((rd a0.fSlots x25).fTerm.fVar), iA ((rd a0.fSlots x25).fTerm.fAdd)]), (12, iA (rd (rd a1.fValues (rd a2.fNodes ((rd a0.fSlots x25).fNode))) ((rd a0.fSlots x25).fAttr)))]) (fun (_ : Unit) (x8' : (List Int)) (x9' : (List Bool)) => [SlE 3 g108.1 kInt x8', SlE 4 g108.2 kBool x9']) h (fun _ x8' x9' h => ?_) (fun j233 Kj233 h => ?_)
    ·refine qq <| sr <| fd R R fo113_2 R <| lS R R sh23 R R <| mv R R ?_
     obtain ⟨t234, ht234, h⟩ := vw h
     refine WL.q (qj R) R R (.s 67 R (.s 68 R .nil)) (q_lend (f := 41) (A := iA t234) (xs := [.tmp 67, .tmp 68]) («as» := [AggA [iA ((rd a0.fSlots x25).fTerm.fVar), iA ((rd a0.fSlots x25).fTerm.fAdd)], HdA g108.1]) R ca41 (attribute_value.con k ((rd a0.fSlots x25).fTerm) x8' t234 ht234) R (.cons (.id _) (.cons (.slc 0 R) .nil)) (Flat.eq _)) <| mv R R <| p2 R 69 R 70 R (qN R R) <| qx <| qw (env' := [(71, _), (25, _), (24, _), (23, _), (9, _), (8, _), (5, _), (4, _), (3, _)]) (.o4 R (.o4 R (.one R (.nil _)))) <| qq ?_
     refine qZ h R (fun hb235 h => ?_) (fun hb235 h => ?_)
     ·refine sr <| ak R <| ak R <| qx <| qw (env' := [(7, _), (6, _)]) (.o2 R (.nil _)) <| qq <| vq <| vz <| qQ <| qQ <| vz <| qQ ?_
      cases h
      exact QR.f2 R R (.t R) (.t R) (.imp (Imp.tup (.cons (Imp.nil kInt) (.cons (Imp.id _) .nil))))
     ·refine qB <| vZ <| qq <| qJ ?_
      obtain ⟨c236, h⟩ := qK h
      refine pk R 25 R (vK R c236) <| mv R R <| qx ?_
      exact next0 () x8' x9' (x25 + 1) _ h (.o4 R (.o4 R (.nil _)))
    ·refine qZ h R (fun hb237 h => ?_) (fun hb237 h => ?_)
     ·refine qJ <| mv R R <| mv R R <| mv R R <| mv R R <| mv R R <| fd R R fo113_2 R <| fd R R fo23_1 R <| ld R R sh3 ?_
      obtain ⟨c238, h⟩ := qK h
      refine p2 R 59 R 62 R (q_subR R c238) ?_
      obtain ⟨c239, h⟩ := qK h
      refine WL.q (qj R) R R (.s 55 R (.s 56 R .nil)) (q_indexO R el26 (j := 0) R c239.1 c239.2) <| WL.w0 [0] R (qj R) R (.s 64 R (.s 63 R .nil)) (w_storeEl (kd := kInt) (z := ((rd (rd a1.fValues (rd a2.fNodes ((rd a0.fSlots x25).fNode))) ((rd a0.fSlots x25).fAttr)) - (rd a0.fSlots x25).fTerm.fAdd)) R sh3 (qW R) R R R c239.1 c239.2 R R) ?_
      rintro _ _ ⟨rfl, rfl⟩
      obtain ⟨c240, h⟩ := qK h
      refine WL.q (qj R) R R (.s 57 R (.s 58 R .nil)) (q_indexO R el111 (j := 1) R c240.1 c240.2) <| WL.w0 [1] R (qj R) R (.s 65 R (.k .nil)) (w_storeEl (kd := kBool) (z := true) R sh4 (qW R) R R R c240.1 c240.2 R R) ?_
      rintro _ _ ⟨rfl, rfl⟩
      refine qx <| QN.order [1, 0] R ?_
      exact qw (.o4 R (.o4 R (.o2 R (.nil _)))) (Kj233 () (x8.set ((rd a0.fSlots x25).fTerm.fVar : Int).toNat ((rd (rd a1.fValues (rd a2.fNodes ((rd a0.fSlots x25).fNode))) ((rd a0.fSlots x25).fAttr)) - (rd a0.fSlots x25).fTerm.fAdd)) (x9.set ((rd a0.fSlots x25).fTerm.fVar : Int).toNat true) h)
     ·refine qB ?_
      exact qw (.o4 R (.o4 R (.o2 R (.nil _)))) (Kj233 () x8 x9 h)
   ·refine qJ <| mv R R <| pk R 46 R (qN R R) <| mv R R ?_
    rcases bif_s h with ⟨hb241, h⟩ | ⟨hb241, h⟩
    ·refine wm R R R hb241 R R <| wm R R R hb241 R R ?_
     obtain ⟨c242, h⟩ := qK h
     refine wq R R R hb241 (.s 49 R (.s 50 R .nil)) (q_indexO R el111 (j := 1) R c242.1 c242.2) <| wq R R R hb241 (.s 51 R .nil) (q_loadEl R sh4 (j := 1) R R c242.1 c242.2 R) <| wq R R R hb241 (.s 52 R .nil) (q_not R).o <| p2 R 48 R 53 R (vQ R hb241) <| qx ?_
     exact qw (.o4 R (.o4 R (.o4 R (.nil _)))) (Kj227 () (!(rd x9 ((rd a0.fSlots x25).fTerm.fVar))) h)
    ·refine sk R R R hb241 <| sk R R R hb241 <| sk R R R hb241 <| sk R R R hb241 <| sk R R R hb241 <| pk R 48 R (vj R hb241) <| qx ?_
     exact qw (.o4 R (.o4 R (.o4 R (.nil _)))) (Kj227 () false h)
  ·refine W.exit <| qV <| qV <| vB <| qw (env' := [(8, _), (3, _)]) (.o2 R (.nil _)) <| qq <| qX <| sr <| fd R R fo42_3 R <| ld R R sh40 <| p1 R 74 R (vN R elS40) <| mk_ R ?_
   refine nt <| vx <| W.drop [1] R ?_
   refine W.loop1 (Γ := Unit) (fun (_ : Unit) (x76 : Int) => [(8, HdA g108.1), (74, SlcA kTest a0.fTests), (75, iA (a0.fTests.length : Int)), (76, iA x76)]) (fun (_ : Unit) (_ : Int) => [SlE 3 g108.1 kInt x8]) h () (.o4 R (.nil _)) R (fun rec1 K1 next1 _ x76 h => ?_)
   unfold attribute_solve.b1 at h
   refine sr <| p2 R 76 R 75 R (qN R R) <| nt <| qX ?_
   refine qZ h R (fun hb255 h => ?_) (fun hb255 h => ?_)
   ·refine qB <| qq <| qX <| vx <| sr ?_
    obtain ⟨c256, h⟩ := qK h
    refine p2 R 74 R 76 R (vX R el40 R c256.1 c256.2) <| lS R R sh86 R R <| WL.w [] R (qj R) R R .nil (w_alloc R z86 (l := [iA 0, iA 0, iA 0, iA 0, iA 0]) R) ?_
    rintro _ _ ⟨b257, rfl, rfl⟩
    refine WL.w0 [0] R (qj R) R (.s 15 R (.s 79 R .nil)) (w_store (L := [iA ((rd a0.fTests x76).fKind), iA ((rd a0.fTests x76).fLeft.fVar), iA ((rd a0.fTests x76).fLeft.fAdd), iA ((rd a0.fTests x76).fRight.fVar), iA ((rd a0.fTests x76).fRight.fAdd)]) R sh86 (qy _) R R (leB R) R) ?_
    rintro _ _ ⟨rfl, rfl⟩
    refine qx <| QN.to (StTo.still [0] 15 R R) <| qq <| sr <| lS R R sh86 R R <| mv R R ?_
    obtain ⟨t258, ht258, h⟩ := vw h
    refine WL.q (qj R) R R (.s 80 R (.s 81 R .nil)) (q_lend (f := 122) (A := bA t258) (xs := [.tmp 80, .tmp 81]) («as» := [AggA [iA ((rd a0.fTests x76).fKind), iA ((rd a0.fTests x76).fLeft.fVar), iA ((rd a0.fTests x76).fLeft.fAdd), iA ((rd a0.fTests x76).fRight.fVar), iA ((rd a0.fTests x76).fRight.fAdd)], HdA g108.1]) R ca122 (difference_Holds.con k (rd a0.fTests x76) x8 t258 ht258) R (.cons (.id _) (.cons (.slc 0 R) .nil)) (Flat.eq _)) <| p1 R 82 R (q_not R) <| qx <| qw (env' := [(83, _), (76, _), (75, _), (74, _), (8, _)]) (.o4 R (.one R (.nil _))) <| qq ?_
    refine qZ h R (fun hb259 h => ?_) (fun hb259 h => ?_)
    ·refine sr <| ak R <| ak R <| nt <| vq <| vz <| qQ <| qQ <| vz <| qQ ?_
     cases h
     exact QR.f2 R R (.t R) (.t R) (.imp (Imp.tup (.cons (Imp.nil kInt) (.cons (Imp.id _) .nil))))
    ·refine qB <| vZ <| qq <| qJ ?_
     obtain ⟨c260, h⟩ := qK h
     refine pk R 76 R (vK R c260) <| mv R R <| qx ?_
     exact next1 () (x76 + 1) _ h (.o4 R (.nil _))
   ·refine W.exit <| qV <| qV <| vB <| qq <| sr <| mv R R <| av R R <| ak R <| nt <| vq ?_
    cases h
    exact QR.f2 R R (.t R) (.t R) (.tup (.cons (.slc 0 R) (.cons (.id _) .nil)))
 ·refine W.drawKT [(0, false), (1, false), (3, false), (4, false)] [2, 5, 6, 7] [2, 5, 6, 7] 4 [[], [0], [0, 1], [], [3], [3, 4], [0, 1, 2], [0, 1, 2, 3, 4, 5, 6]] mx (by kernel_rfl) <| DKT.cons R R (.p R (.s 3 R .nil) R (q_field R fo42_2 R)) <| DKT.cons R R (.p R (.s 16 R .nil) R (q_load R sh3)) ?_
  obtain ⟨c261, h⟩ := qK h
  refine DKT.cons R R (.p R (.s 3 R .nil) R (q_field R fo42_2 R)) <| DKT.cons R R (.p R (.s 19 R .nil) R (q_load R sh3)) ?_
  obtain ⟨c263, h⟩ := qK h
  refine DKT.nil <| CT.step ?_
  refine CTc.yes R ?_ ?_
  ·refine CStep1.w [] (fun _ => R) R R R R (.s 17 R (.s 17 R .nil)) R (w_make (kd := kInt) (z := (0 : Int)) R el26 R gr3 z3 R c261.1 c261.2) ?_
   rintro _ _ ⟨v262, rfl, rfl⟩
   refine CT.list (l' := [5, 6, 7]) R <| CT.step ?_
   refine CTc.yes R ?_ ?_
   ·refine CStep1.w [] (fun _ => R) R R R R (.s 20 R (.s 20 R .nil)) R (w_make (kd := kBool) (z := false) R el111 R gr4 z4 R c263.1 c263.2) ?_
    rintro _ _ ⟨v264, rfl, rfl⟩
    refine CT.list (l' := [6, 7]) R <| CT.step ?_
    refine CTc.yes R ?_ ?_
    ·refine CStep1.p R R R (.s 18 R .nil) R (q_assign R) <| CT.list (l' := [7]) R <| CT.step ?_
     refine CTc.yes R ?_ ?_
     ·refine CStep1.p R R R (.s 21 R .nil) R (q_assign R) <| CT.list (l' := []) R <| CT.nil <| QN.order [1, 0] R ?_
      exact qw (.o4 R (.one R (.nil _))) (Kj113 (v262, v264) h)
     exact CTc.end
    refine CTc.no R ?_
    exact CTc.end
   refine CTc.yes R ?_ ?_
   ·refine CStep1.p R R R (.s 18 R .nil) R (q_assign R) <| CT.list (l' := [5, 7]) R <| CT.step ?_
    refine CTc.yes R ?_ ?_
    ·refine CStep1.w [] (fun _ => R) R R R R (.s 20 R (.s 20 R .nil)) R (w_make (kd := kBool) (z := false) R el111 R gr4 z4 R c263.1 c263.2) ?_
     rintro _ _ ⟨v264, rfl, rfl⟩
     refine CT.list (l' := [7]) R <| CT.step ?_
     refine CTc.yes R ?_ ?_
     ·refine CStep1.p R R R (.s 21 R .nil) R (q_assign R) <| CT.list (l' := []) R <| CT.nil <| QN.order [1, 0] R ?_
      exact qw (.o4 R (.one R (.nil _))) (Kj113 (v262, v264) h)
     exact CTc.end
    refine CTc.no R ?_
    exact CTc.end
   refine CTc.no R ?_
   exact CTc.end
  refine CTc.yes R ?_ ?_
  ·refine CStep1.w [] (fun _ => R) R R R R (.s 20 R (.s 20 R .nil)) R (w_make (kd := kBool) (z := false) R el111 R gr4 z4 R c263.1 c263.2) ?_
   rintro _ _ ⟨v264, rfl, rfl⟩
   refine CT.list (l' := [2, 6, 7]) R <| CT.step ?_
   refine CTc.yes R ?_ ?_
   ·refine CStep1.w [] (fun _ => R) R R R R (.s 17 R (.s 17 R .nil)) R (w_make (kd := kInt) (z := (0 : Int)) R el26 R gr3 z3 R c261.1 c261.2) ?_
    rintro _ _ ⟨v262, rfl, rfl⟩
    refine CT.list (l' := [6, 7]) R <| CT.step ?_
    refine CTc.yes R ?_ ?_
    ·refine CStep1.p R R R (.s 18 R .nil) R (q_assign R) <| CT.list (l' := [7]) R <| CT.step ?_
     refine CTc.yes R ?_ ?_
     ·refine CStep1.p R R R (.s 21 R .nil) R (q_assign R) <| CT.list (l' := []) R <| CT.nil ?_
      exact qw (.o4 R (.one R (.nil _))) (Kj113 (v262, v264) h)
     exact CTc.end
    refine CTc.no R ?_
    exact CTc.end
   refine CTc.no R <| CTc.no R ?_
   exact CTc.end
  refine CTc.no R <| CTc.no R ?_
  exact CTc.end
theorem attribute_Matches.con (k : Nat) (a0 : Types) (a1 : Pattern) (a2 : Host) (a3 : Bool) (r : ((List Match) × Int)) (h : attribute_Matches k a0 a1 a2 a3 = some r) : Con Tryz.prog 29 [] [AggA [SlcA kNodeType a0.fNodes, SlcA kEdgeType a0.fEdges], AggA [SlcA kInt a1.fGraph.fNodes, SlcA kEdge a1.fGraph.fEdges, SlcA kSlot a1.fSlots, iA a1.fVars, SlcA kTest a1.fTests], AggA [SlcA kInt a2.fGraph.fNodes, SlcA kEdge a2.fGraph.fEdges, SlcA (kSl kInt) a2.fValues], bA a3] (RA (TupA [SlcA kMatch r.1, iA r.2])) := by
 unfold attribute_Matches at h
 refine vJ (N := 61) Tryz.func29 R R R fun w0_ fg_ => sr <| p1 R 0 R (q_box R (qy _)) <| p1 R 1 R (q_box R (qy _)) <| p1 R 2 R (q_box R (qy _)) <| ak R <| ak R <| nt <| qX <| sr ?_
 refine lS R R sh35 R R <| lS R R sh42 R R <| lS R R sh60 R R ?_
 obtain ⟨t100, ht100, h⟩ := vw h
 refine WL.p R R R (.s 18 R (.s 19 R (.s 20 R .nil))) (vy (f := 72) (A := iA t100) (xs := [.tmp 18, .tmp 19, .tmp 20]) («as» := [AggA [SlcA kNodeType a0.fNodes, SlcA kEdgeType a0.fEdges], AggA [SlcA kInt a1.fGraph.fNodes, SlcA kEdge a1.fGraph.fEdges, SlcA kSlot a1.fSlots, iA a1.fVars, SlcA kTest a1.fTests], AggA [SlcA kInt a2.fGraph.fNodes, SlcA kEdge a2.fGraph.fEdges, SlcA (kSl kInt) a2.fValues]]) R ca72 (attribute_given.con k a0 a1 a2 t100 ht100) R) <| av R R <| qx <| qw (env' := [(10, _), (6, _), (5, _), (4, _), (3, _)]) (.o4 R (.one R (.nil _))) <| qq <| sr <| mv R R <| pk R 22 R (qN R R) <| nt ?_
 refine qZ h R (fun hb101 h => ?_) (fun hb101 h => ?_)
 ·refine sr <| mv R R <| ak R <| av R R <| qx <| qw (env' := [(9, _), (8, _)]) (.o2 R (.nil _)) <| qq <| vq <| qQ ?_
  cases h
  exact QR.f2 R R (.t R) (.t R) (.imp (Imp.tup (.cons (Imp.nil kMatch) (.cons (Imp.id _) .nil))))
 ·refine qB <| qq <| sr <| lS R R sh35 R R <| fd R R fo42_0 R <| lS R R sh38 R R <| fd R R fo60_0 R <| lS R R sh38 R R <| mv R R ?_
  obtain ⟨t102, ht102, h⟩ := vw h
  refine WL.p R R R (.s 26 R (.s 28 R (.s 30 R (.s 31 R .nil)))) (vy (f := 78) (A := TupA [SlcA kMorphism t102.1, iA t102.2]) (xs := [.tmp 26, .tmp 28, .tmp 30, .tmp 31]) («as» := [AggA [SlcA kNodeType a0.fNodes, SlcA kEdgeType a0.fEdges], AggA [SlcA kInt a1.fGraph.fNodes, SlcA kEdge a1.fGraph.fEdges], AggA [SlcA kInt a2.fGraph.fNodes, SlcA kEdge a2.fGraph.fEdges], bA a3]) R ca78 (search_All.con k a0 a1.fGraph a2.fGraph a3 t102 ht102) R) <| mv R R <| p1 R 25 R (vV R R) <| p1 R 25 R (vV R R) <| av R R <| av R R <| qx <| qw (env' := [(12, _), (11, _), (6, _), (5, _)]) (.o4 R (.nil _)) <| qq <| qX <| sr <| mv R R ?_
  refine pk R 35 R (qN R R) <| nt ?_
  refine qZ h R (fun hb103 h => ?_) (fun hb103 h => ?_)
  ·refine sr <| mv R R <| ak R <| av R R <| qx <| qw (env' := [(9, _), (8, _)]) (.o2 R (.nil _)) <| qq <| vq <| qQ ?_
   cases h
   exact QR.f2 R R (.t R) (.t R) (.imp (Imp.tup (.cons (Imp.nil kMatch) (.cons (Imp.id _) .nil))))
  ·refine qB <| qq <| sr <| ak R <| nt <| qX <| sr <| mv R R <| p1 R 38 R (vN R elS133) <| mk_ R ?_
   refine nt <| vx <| W.to (StTo.newNil 76 kMatch) <| W.to (StTo.as 13 R Imp.nilHd) ?_
   refine W.loop2 (Γ := Value) (fun (g0 : Value) (_ : (List Match)) (x40 : Int) => [(5, PtrA [SlcA kInt a1.fGraph.fNodes, SlcA kEdge a1.fGraph.fEdges, SlcA kSlot a1.fSlots, iA a1.fVars, SlcA kTest a1.fTests]), (6, PtrA [SlcA kInt a2.fGraph.fNodes, SlcA kEdge a2.fGraph.fEdges, SlcA (kSl kInt) a2.fValues]), (13, HdA g0), (38, SlcA kMorphism t102.1), (39, iA (t102.1.length : Int)), (40, iA x40)]) (fun (g0 : Value) (x13 : (List Match)) (_ : Int) => [SlE 76 g0 kMatch x13]) h (.slice none 0 0) (.o4 R (.o2 R (.nil _))) R (fun rec0 K0 next0 g0 x13 x40 h => ?_)
   unfold attribute_Matches.b0 at h
   refine sr <| p2 R 40 R 39 R (qN R R) <| nt <| qX ?_
   refine qZ h R (fun hb136 h => ?_) (fun hb136 h => ?_)
   ·refine qB <| qq <| qX <| vx <| sr ?_
    obtain ⟨c137, h⟩ := qK h
    refine p2 R 38 R 40 R (vX R el133 R c137.1 c137.2) <| lS R R sh64 R R <| WL.w [] R (qj R) R R .nil (w_alloc R z64 (l := [EqA (.slice none 0 0), EqA (.slice none 0 0)]) R) ?_
    rintro _ _ ⟨b138, rfl, rfl⟩
    refine WL.w0 [0] R (qj R) R (.s 15 R (.s 43 R .nil)) (w_store (L := [SlcA kInt ((rd t102.1 x40).fNodes), SlcA kInt ((rd t102.1 x40).fEdges)]) R sh64 (qy _) R R (leB R) R) ?_
    rintro _ _ ⟨rfl, rfl⟩
    refine qx <| QN.to (StTo.still [0] 15 R R) <| qq <| sr <| lS R R sh42 R R <| lS R R sh60 R R <| lS R R sh64 R R ?_
    obtain ⟨t139, ht139, h⟩ := vw h
    refine WL.p R R R (.s 45 R (.s 46 R (.s 47 R .nil))) (vy (f := 74) (A := TupA [SlcA kInt t139.1, iA t139.2]) (xs := [.tmp 45, .tmp 46, .tmp 47]) («as» := [AggA [SlcA kInt a1.fGraph.fNodes, SlcA kEdge a1.fGraph.fEdges, SlcA kSlot a1.fSlots, iA a1.fVars, SlcA kTest a1.fTests], AggA [SlcA kInt a2.fGraph.fNodes, SlcA kEdge a2.fGraph.fEdges, SlcA (kSl kInt) a2.fValues], AggA [SlcA kInt ((rd t102.1 x40).fNodes), SlcA kInt ((rd t102.1 x40).fEdges)]]) R ca74 (attribute_solve.con k a1 a2 (rd t102.1 x40) t139 ht139) R) <| mv R R <| p1 R 44 R (vV R R) <| p1 R 44 R (vV R R) <| av R R <| av R R <| qx <| qw (env' := [(17, _), (16, _), (15, _), (40, _), (39, _), (38, _), (13, _), (6, _), (5, _)]) (.o4 R (.o4 R (.one R (.nil _)))) <| qq <| sr <| mv R R <| pk R 51 R (qN R R) ?_
    refine nt ?_
    refine qZ h R (fun hb143 h => ?_) (fun hb143 h => ?_)
    ·refine qJ <| mv R R <| lS R R sh64 R R <| mv R R <| p2 R 54 R 55 R (q_build (is := [0, 1]) (xs := [.tmp 54, .tmp 55]) (L := [SlcA kInt ((rd t102.1 x40).fNodes), SlcA kInt ((rd t102.1 x40).fEdges), SlcA kInt t139.1]) R R z76 pl76 R R (.cons (qy _) (.cons (qW R) .nil)) R) <| p1 R 56 R (q_lit (kd := kMatch) (ps := [(0, .tmp 56)]) (xs := [.tmp 56]) («as» := [AggA [SlcA kInt ((rd t102.1 x40).fNodes), SlcA kInt ((rd t102.1 x40).fEdges), SlcA kInt t139.1]]) (ys := [(Match.mk (rd t102.1 x40) t139.1)]) R R el71 R gr76 R R R (.cons (qy _) .nil)) ?_
     obtain ⟨c144, h⟩ := qK h
     refine WL.w [0] R (qj R) R R (.s 53 R (.s 57 R .nil)) (w_append (kd := kMatch) R el71 R gr76 c144) ?_
     rintro _ _ ⟨v145, rfl, rfl⟩
     refine av R R <| qx <| vZ <| qw (env' := [(13, _), (40, _), (39, _), (38, _), (6, _), (5, _)]) (.o4 R (.o2 R (.nil _))) <| qq <| qJ ?_
     obtain ⟨c146, h⟩ := qK h
     refine pk R 40 R (vK R c146) <| mv R R <| qx ?_
     exact next0 v145 (x13 ++ [(Match.mk (rd t102.1 x40) t139.1)]) (x40 + 1) _ h (.o4 R (.o2 R (.nil _)))
    ·refine qB <| vZ <| qq <| qJ ?_
     obtain ⟨c147, h⟩ := qK h
     refine pk R 40 R (vK R c147) <| mv R R <| qx ?_
     exact next0 g0 x13 (x40 + 1) _ h (.o4 R (.o2 R (.nil _)))
   ·refine W.exit <| qV <| qV <| vB <| qq <| sr <| mv R R <| av R R <| ak R <| qx <| qw (env' := [(9, _), (8, _)]) (.o2 R (.nil _)) <| qq ?_
    refine vq ?_
    cases h
    exact QR.f2 R R (.t R) (.t R) (.tup (.cons (.slc 0 R) (.cons (.id _) .nil)))
theorem slices_Clone_Test.conN (k : Nat) (a0 : (List Test)) (r : (List Test)) (h : slices_Clone_Test k a0 = some r) : Con Tryz.prog 95 [] [SlcA kTest a0] (RApp 86 kTest r) := by
  unfold slices_Clone_Test at h
  obtain ⟨hl, h⟩ := qK h
  cases h
  refine vJ (N := 8) Tryz.func95 R R R fun w0_ fg_ => ?_
  refine qX (qJ (ak R (qx (qq ?_))))
  refine qX (qX (qJ (mv R R (p1 R 3 R (q_nilAny (kd := kTest) (xs := a0) R elS40) (qx (qq ?_))))))
  refine W.condAny R (fun hp => ?_) (fun _ => ?_)
  · have hn := hp R
    subst hn
    refine qX (qJ (ak R (qx (qq ?_))))
    refine vq (qQ ?_)
    refine QR.to (StTo.newNil 86 kTest) ?_
    refine QR.to (StTo.as 2 R Imp.nilHd) ?_
    exact QR.tmp R R ⟨_, R, R⟩
  · refine qB (qq ?_)
    refine qX (qJ ?_)
    refine WL.p R R R .nil (q_lit0 R el40 gr86) ?_
    refine mv R R ?_
    refine WL.w [] R (qj R) R R (.s 5 R (.s 6 R .nil)) (w_appendZ (kd := kTest) R el40 R gr86 hl) ?_
    rintro _ _ ⟨v, rfl, rfl⟩
    refine av R R ?_
    refine qx (qq ?_)
    refine vq ?_
    exact QR.tmp R R ⟨_, R, R⟩
theorem slices_Clone_Test.con (k : Nat) (a0 : (List Test)) (r : (List Test)) (h : slices_Clone_Test k a0 = some r) : Con Tryz.prog 95 [] [SlcA kTest a0] (RA (SlcA kTest r)) := Con.free (slices_Clone_Test.conN k a0 r h)
theorem attribute_system_1.con (k : Nat) (a0 : Int) (r : Term) (h : attribute_system_1 k a0 = some r) : Con Tryz.prog 96 [] [iA a0] (RA (AggA [iA r.fVar, iA r.fAdd])) := by
 unfold attribute_system_1 at h
 refine vJ (N := 5) Tryz.func96 R R R fun w0_ fg_ => sr <| WL.w [] R (qj R) R R .nil (w_alloc R z23 (l := [iA 0, iA 0]) R) ?_
 rintro _ _ ⟨b100, rfl, rfl⟩
 refine nx <| mv R R <| WL.p R R R (.k (.s 3 R .nil)) (q_build (is := [0, 1]) (xs := [.const (.int .i64 (-1)), .tmp 3]) (L := [iA (-1), iA a0]) R R z23 pl23 R R (.cons (qW R) (.cons (qW R) .nil)) R) <| WL.w0 [0] R (qj R) R (.s 2 R (.s 4 R .nil)) (w_store (L := [iA (-1), iA a0]) R sh23 (qy _) R R (leB R) R) ?_
 rintro _ _ ⟨rfl, rfl⟩
 refine qx <| QN.to (StTo.still [0] 2 R R) <| qq <| vq ?_
 cases h
 exact vW R R (.ps R sh23 R) (.id _)
theorem attribute_system.con (k : Nat) (a0 : Types) (a1 : Pattern) (r : (List Test)) (h : attribute_system k a0 a1 = some r) : Con Tryz.prog 45 [] [AggA [SlcA kNodeType a0.fNodes, SlcA kEdgeType a0.fEdges], AggA [SlcA kInt a1.fGraph.fNodes, SlcA kEdge a1.fGraph.fEdges, SlcA kSlot a1.fSlots, iA a1.fVars, SlcA kTest a1.fTests]] (RA (SlcA kTest r)) := by
 unfold attribute_system at h
 refine vJ (N := 81) Tryz.func45 R R R fun w0_ fg_ => sr <| p1 R 0 R (q_box R (qy _)) <| p1 R 1 R (q_box R (qy _)) <| ak R <| nx <| fd R R fo42_3 R <| ld R R sh40 ?_
 obtain ⟨t100, ht100, h⟩ := vw h
 refine WL.w [] R (qj R) R R (.s 14 R .nil) (w_callI (f := 95) (xs := [.tmp 14]) («as» := [SlcA kTest a1.fTests]) R ca95 (slices_Clone_Test.conN k a1.fTests t100 ht100) R (.cons (Imp.id _) .nil)) ?_
 rintro _ _ ⟨v101, rfl, rfl⟩
 refine av R R <| nx <| WL.p R R R (.f («as» := (fun (x : Int) => [iA x])) (res := (fun (y : Term) => AggA [iA y.fVar, iA y.fAdd])) (p := fun x => attribute_system_1 k x) ca96 (fun x y hp => attribute_system_1.con k x y hp) .nil) (q_assign R) <| nt <| qX <| sr <| fd R R fo42_1 R <| ld R R sh39 ?_
 refine p1 R 17 R (vN R elS39) <| mk_ R <| qx <| qw (env' := [(19, _), (18, _), (17, _), (6, _), (5, _), (3, _), (2, _)]) (.o4 R (.o2 R (.one R (.nil _)))) <| qq <| vx ?_
 refine W.loop2 (Γ := Value) (fun (g0 : Value) (_ : (List Test)) (x19 : Int) => [(2, PtrA [SlcA kNodeType a0.fNodes, SlcA kEdgeType a0.fEdges]), (3, PtrA [SlcA kInt a1.fGraph.fNodes, SlcA kEdge a1.fGraph.fEdges, SlcA kSlot a1.fSlots, iA a1.fVars, SlcA kTest a1.fTests]), (5, HdA g0), (6, FnA Tryz.prog (fun (x : Int) => [iA x]) (fun (y : Term) => AggA [iA y.fVar, iA y.fAdd]) (fun x => attribute_system_1 k x)), (17, SlcA kSlot a1.fSlots), (18, iA (a1.fSlots.length : Int)), (19, iA x19)]) (fun (g0 : Value) (x5 : (List Test)) (_ : Int) => [SlE 86 g0 kTest x5]) h v101 (.o4 R (.o2 R (.one R (.nil _)))) R (fun rec0 K0 next0 g0 x5 x19 h => ?_)
 unfold attribute_system.b0 at h
 refine sr <| p2 R 19 R 18 R (qN R R) <| nt <| qX ?_
 refine qZ h R (fun hb286 h => ?_) (fun hb286 h => ?_)
 ·refine qB <| qq <| qX <| vx <| sr <| mv R R ?_
  obtain ⟨c287, h⟩ := qK h
  refine p2 R 17 R 19 R (vX R el39 R c287.1 c287.2) <| lS R R sh113 R R <| WL.w [] R (qj R) R R .nil (w_alloc R z113 (l := [iA 0, iA 0, iA 0, iA 0]) R) ?_
  rintro _ _ ⟨b288, rfl, rfl⟩
  refine av R R <| WL.w0 [0] R (qj R) R (.s 8 R (.s 23 R .nil)) (w_store (L := [iA ((rd a1.fSlots x19).fNode), iA ((rd a1.fSlots x19).fAttr), iA ((rd a1.fSlots x19).fTerm.fVar), iA ((rd a1.fSlots x19).fTerm.fAdd)]) R sh113 (qy _) R R (leB R) R) ?_
  rintro _ _ ⟨rfl, rfl⟩
  refine qx <| QN.to (StTo.still [0] 8 R R) <| qq <| sr <| lS R R sh35 R R <| lS R R sh42 R R <| lS R R sh113 R R ?_
  obtain ⟨t289, ht289, h⟩ := vw h
  refine WL.p R R R (.s 25 R (.s 26 R (.s 27 R .nil))) (vy (f := 55) (A := TupA [AggA [EqA (strV t289.1.fName), iA t289.1.fLow, iA t289.1.fHigh, SlcA kStr t289.1.fNames], bA t289.2]) (xs := [.tmp 25, .tmp 26, .tmp 27]) («as» := [AggA [SlcA kNodeType a0.fNodes, SlcA kEdgeType a0.fEdges], AggA [SlcA kInt a1.fGraph.fNodes, SlcA kEdge a1.fGraph.fEdges, SlcA kSlot a1.fSlots, iA a1.fVars, SlcA kTest a1.fTests], AggA [iA ((rd a1.fSlots x19).fNode), iA ((rd a1.fSlots x19).fAttr), iA ((rd a1.fSlots x19).fTerm.fVar), iA ((rd a1.fSlots x19).fTerm.fAdd)]]) R ca55 (attribute_attr.con k a0 a1 (rd a1.fSlots x19) t289 ht289) R) <| mv R R <| p1 R 24 R (vV R R) <| p1 R 24 R (vV R R) <| WL.w [] R (qj R) R R .nil (w_alloc R z95 (l := [EqA (strV ([] : Str)), iA 0, iA 0, EqA (.slice none 0 0)]) R) ?_
  rintro _ _ ⟨b290, rfl, rfl⟩
  refine WL.w0 [0] R (qj R) R (.s 9 R (.s 29 R .nil)) (w_store (L := [EqA (strV t289.1.fName), iA t289.1.fLow, iA t289.1.fHigh, SlcA kStr t289.1.fNames]) R sh95 (qy _) R R (leB R) R) ?_
  rintro _ _ ⟨rfl, rfl⟩
  refine av R R <| qx <| QN.to (StTo.still [0] 9 R R) <| qw (env' := [(9, _), (7, _), (8, _), (19, _), (18, _), (17, _), (6, _), (5, _), (3, _), (2, _)]) (.o4 R (.o4 R (.o2 R (.nil _)))) <| qq <| qX <| W.drawK [(0, false), (1, false), (2, false), (3, false), (4, false), (5, false), (6, false), (7, false), (8, false), (9, false), (10, false), (11, false), (12, false), (13, false), (14, false), (15, false)] [16, 17] (bm [0, 0, 0, 4, 14, 0, 32, 126, 0, 256, 0, 0, 2048, 7198, 16158, 32766, 65535, 131071]) mx (by kernel_rfl) <| dm R R R <| dm R R R <| df R R R fo95_1 R <| dl R R R sh3 ?_
  obtain ⟨t299, ht299, h⟩ := vw h
  refine qz R R (.p R (.s 32 R (.s 34 R .nil)) R (q_callV («as» := (fun (x : Int) => [iA x])) (res := (fun (y : Term) => AggA [iA y.fVar, iA y.fAdd])) (x := t289.1.fLow) (y := t299) (xs := [.tmp 34]) R ht299 R)) <| df R R R fo113_2 R <| qz R R (.p R (.s 36 R .nil) R (q_loadS R sh23 (leB R) R)) <| qz R R (.p R (.k (.s 35 R (.s 37 R .nil))) R (q_build (is := [0, 1, 2]) (xs := [.const (.int .i64 1), .tmp 35, .tmp 37]) (L := [iA 1, iA t299.fVar, iA t299.fAdd, iA ((rd a1.fSlots x19).fTerm.fVar), iA ((rd a1.fSlots x19).fTerm.fAdd)]) R R z86 pl86 R R (.cons (qW R) (.cons (qy _) (.cons (qy _) .nil))) R)) <| df R R R fo113_2 R <| qz R R (.p R (.s 39 R .nil) R (q_loadS R sh23 (leB R) R)) <| dm R R R <| df R R R fo95_2 R <| dl R R R sh3 ?_
  obtain ⟨t300, ht300, h⟩ := vw h
  refine qz R R (.p R (.s 41 R (.s 43 R .nil)) R (q_callV («as» := (fun (x : Int) => [iA x])) (res := (fun (y : Term) => AggA [iA y.fVar, iA y.fAdd])) (x := t289.1.fHigh) (y := t300) (xs := [.tmp 43]) R ht300 R)) <| qz R R (.p R (.k (.s 40 R (.s 44 R .nil))) R (q_build (is := [0, 1, 2]) (xs := [.const (.int .i64 1), .tmp 40, .tmp 44]) (L := [iA 1, iA ((rd a1.fSlots x19).fTerm.fVar), iA ((rd a1.fSlots x19).fTerm.fAdd), iA t300.fVar, iA t300.fAdd]) R R z86 pl86 R R (.cons (qW R) (.cons (qy _) (.cons (qy _) .nil))) R)) <| qz R R (.p R (.s 38 R (.s 45 R .nil)) R (q_lit (kd := kTest) (ps := [(0, .tmp 38), (1, .tmp 45)]) (xs := [.tmp 38, .tmp 45]) («as» := [AggA [iA 1, iA t299.fVar, iA t299.fAdd, iA ((rd a1.fSlots x19).fTerm.fVar), iA ((rd a1.fSlots x19).fTerm.fAdd)], AggA [iA 1, iA ((rd a1.fSlots x19).fTerm.fVar), iA ((rd a1.fSlots x19).fTerm.fAdd), iA t300.fVar, iA t300.fAdd]]) (ys := [(Test.mk 1 t299 ((rd a1.fSlots x19).fTerm)), (Test.mk 1 ((rd a1.fSlots x19).fTerm) t300)]) R R el40 R gr86 R R R (.cons (qy _) (.cons (qy _) .nil)))) ?_
  obtain ⟨c301, h⟩ := qK h
  refine DK.nil <| CSteps.w [0] R R R R (.s 31 R (.s 46 R .nil)) R (w_append (kd := kTest) R el40 R gr86 c301) ?_
  rintro _ _ ⟨v302, rfl, rfl⟩
  refine CSteps.p R R R (.s 47 R .nil) R (q_assign R) <| CSteps.nil <| qw (env' := [(5, _), (7, _), (8, _), (19, _), (18, _), (17, _), (6, _), (3, _), (2, _)]) (.o4 R (.o4 R (.one R (.nil _)))) <| qq <| sr <| mv R R ?_
  obtain ⟨c303, h⟩ := qK h
  refine pk R 48 R (q_subR R c303) <| av R R <| nt <| vx ?_
  refine W.loop1 (Γ := Unit) (fun (_ : Unit) (x11 : Int) => [(2, PtrA [SlcA kNodeType a0.fNodes, SlcA kEdgeType a0.fEdges]), (3, PtrA [SlcA kInt a1.fGraph.fNodes, SlcA kEdge a1.fGraph.fEdges, SlcA kSlot a1.fSlots, iA a1.fVars, SlcA kTest a1.fTests]), (6, FnA Tryz.prog (fun (x : Int) => [iA x]) (fun (y : Term) => AggA [iA y.fVar, iA y.fAdd]) (fun x => attribute_system_1 k x)), (17, SlcA kSlot a1.fSlots), (18, iA (a1.fSlots.length : Int)), (19, iA x19), (8, PtrA [iA ((rd a1.fSlots x19).fNode), iA ((rd a1.fSlots x19).fAttr), iA ((rd a1.fSlots x19).fTerm.fVar), iA ((rd a1.fSlots x19).fTerm.fAdd)]), (5, HdA v302), (11, iA x11)]) (fun (_ : Unit) (_ : Int) => [SlE 86 v302 kTest (x5 ++ [(Test.mk 1 t299 ((rd a1.fSlots x19).fTerm)), (Test.mk 1 ((rd a1.fSlots x19).fTerm) t300)])]) h () (.o4 R (.o4 R (.one R (.nil _)))) R (fun rec1 K1 next1 _ x11 h => ?_)
  unfold attribute_system.b1 at h
  refine qX <| sr <| mv R R <| pk R 50 R (qN R R) <| nt ?_
  refine qZ h R (fun hb363 h => ?_) (fun hb363 h => ?_)
  ·refine qB <| qq <| qX <| vx <| sr <| fd R R fo42_1 R <| ld R R sh39 <| mv R R ?_
   obtain ⟨c364, h⟩ := qK h
   refine p2 R 55 R 56 R (vX R el39 R c364.1 c364.2) <| lS R R sh113 R R <| WL.w [] R (qj R) R R .nil (w_alloc R z113 (l := [iA 0, iA 0, iA 0, iA 0]) R) ?_
   rintro _ _ ⟨b365, rfl, rfl⟩
   refine WL.w0 [0] R (qj R) R (.s 12 R (.s 58 R .nil)) (w_store (L := [iA ((rd a1.fSlots x11).fNode), iA ((rd a1.fSlots x11).fAttr), iA ((rd a1.fSlots x11).fTerm.fVar), iA ((rd a1.fSlots x11).fTerm.fAdd)]) R sh113 (qy _) R R (leB R) R) ?_
   rintro _ _ ⟨rfl, rfl⟩
   refine qx <| QN.to (StTo.still [0] 12 R R) <| qw (env' := [(12, _), (11, _), (5, _), (8, _), (19, _), (18, _), (17, _), (6, _), (3, _), (2, _)]) (.o4 R (.o4 R (.o2 R (.nil _)))) <| qq <| qX ?_
   refine W.jn1 (Γ := Unit) (fun (_ : Unit) (x70 : Bool) => [(2, PtrA [SlcA kNodeType a0.fNodes, SlcA kEdgeType a0.fEdges]), (3, PtrA [SlcA kInt a1.fGraph.fNodes, SlcA kEdge a1.fGraph.fEdges, SlcA kSlot a1.fSlots, iA a1.fVars, SlcA kTest a1.fTests]), (6, FnA Tryz.prog (fun (x : Int) => [iA x]) (fun (y : Term) => AggA [iA y.fVar, iA y.fAdd]) (fun x => attribute_system_1 k x)), (17, SlcA kSlot a1.fSlots), (18, iA (a1.fSlots.length : Int)), (19, iA x19), (8, PtrA [iA ((rd a1.fSlots x19).fNode), iA ((rd a1.fSlots x19).fAttr), iA ((rd a1.fSlots x19).fTerm.fVar), iA ((rd a1.fSlots x19).fTerm.fAdd)]), (5, HdA v302), (11, iA x11), (12, PtrA [iA ((rd a1.fSlots x11).fNode), iA ((rd a1.fSlots x11).fAttr), iA ((rd a1.fSlots x11).fTerm.fVar), iA ((rd a1.fSlots x11).fTerm.fAdd)]), (70, bA x70)]) (fun (_ : Unit) (_ : Bool) => [SlE 86 v302 kTest (x5 ++ [(Test.mk 1 t299 ((rd a1.fSlots x19).fTerm)), (Test.mk 1 ((rd a1.fSlots x19).fTerm) t300)])]) h (fun _ x70 h => ?_) (fun j368 Kj368 h => ?_)
   ·refine qq ?_
    refine qZ h R (fun hb369 h => ?_) (fun hb369 h => ?_)
    ·refine sr <| mv R R <| fd R R fo113_2 R <| lS R R sh23 R R <| fd R R fo113_2 R <| lS R R sh23 R R <| WL.p R R R (.k (.s 73 R (.s 75 R .nil))) (q_build (is := [0, 1, 2]) (xs := [.const (.int .i64 2), .tmp 73, .tmp 75]) (L := [iA 2, iA ((rd a1.fSlots x11).fTerm.fVar), iA ((rd a1.fSlots x11).fTerm.fAdd), iA ((rd a1.fSlots x19).fTerm.fVar), iA ((rd a1.fSlots x19).fTerm.fAdd)]) R R z86 pl86 R R (.cons (qW R) (.cons (qy _) (.cons (qy _) .nil))) R) <| p1 R 76 R (q_lit (kd := kTest) (ps := [(0, .tmp 76)]) (xs := [.tmp 76]) («as» := [AggA [iA 2, iA ((rd a1.fSlots x11).fTerm.fVar), iA ((rd a1.fSlots x11).fTerm.fAdd), iA ((rd a1.fSlots x19).fTerm.fVar), iA ((rd a1.fSlots x19).fTerm.fAdd)]]) (ys := [(Test.mk 2 ((rd a1.fSlots x11).fTerm) ((rd a1.fSlots x19).fTerm))]) R R el40 R gr86 R R R (.cons (qy _) .nil)) ?_
     obtain ⟨c370, h⟩ := qK h
     refine WL.w [0] R (qj R) R R (.s 71 R (.s 77 R .nil)) (w_append (kd := kTest) R el40 R gr86 c370) ?_
     rintro _ _ ⟨v371, rfl, rfl⟩
     refine av R R <| qx <| qw (env' := [(5, _), (19, _), (18, _), (17, _), (6, _), (3, _), (2, _)]) (.o4 R (.o2 R (.one R (.nil _)))) <| qq <| W.exit <| QX.there R <| qV <| qV <| vB <| vZ <| qq <| qJ ?_
     obtain ⟨c372, h⟩ := qK h
     refine pk R 19 R (vK R c372) <| mv R R <| qx ?_
     exact next0 v371 ((x5 ++ [(Test.mk 1 t299 ((rd a1.fSlots x19).fTerm)), (Test.mk 1 ((rd a1.fSlots x19).fTerm) t300)]) ++ [(Test.mk 2 ((rd a1.fSlots x11).fTerm) ((rd a1.fSlots x19).fTerm))]) (x19 + 1) _ h (.o4 R (.o2 R (.one R (.nil _))))
    ·refine qB <| vZ <| qq <| qJ <| mv R R ?_
     obtain ⟨c373, h⟩ := qK h
     refine pk R 52 R (q_subR R c373) <| av R R <| qx ?_
     exact next1 () (x11 - 1) _ h (.o4 R (.o4 R (.one R (.nil _))))
   ·refine qJ <| fd R R fo113_0 R <| ld R R sh3 <| fd R R fo113_0 R <| ld R R sh3 <| p2 R 60 R 62 R (qN R R) <| mv R R ?_
    rcases bif_s h with ⟨hb374, h⟩ | ⟨hb374, h⟩
    ·refine wf R R R hb374 R R fo113_1 R <| wl R R R hb374 R R sh3 <| wf R R R hb374 R R fo113_1 R <| wl R R R hb374 R R sh3 <| wq R R R hb374 (.s 66 R (.s 68 R .nil)) (qN R R).o <| p2 R 64 R 69 R (vQ R hb374) <| qx ?_
     exact qw (.o4 R (.o4 R (.o2 R (.one R (.nil _))))) (Kj368 () ((rd a1.fSlots x11).fAttr == (rd a1.fSlots x19).fAttr) h)
    ·refine sk R R R hb374 <| sk R R R hb374 <| sk R R R hb374 <| sk R R R hb374 <| sk R R R hb374 <| pk R 64 R (vj R hb374) <| qx ?_
     exact qw (.o4 R (.o4 R (.o2 R (.one R (.nil _))))) (Kj368 () false h)
  ·refine W.exit <| qV <| qV <| vB <| vZ <| qq <| qJ ?_
   obtain ⟨c375, h⟩ := qK h
   refine pk R 19 R (vK R c375) <| mv R R <| qx ?_
   exact next0 v302 (x5 ++ [(Test.mk 1 t299 ((rd a1.fSlots x19).fTerm)), (Test.mk 1 ((rd a1.fSlots x19).fTerm) t300)]) (x19 + 1) _ h (.o4 R (.o2 R (.one R (.nil _))))
 ·refine W.exit <| qV <| qV <| vB <| qw (env' := [(5, _)]) (.one R (.nil _)) <| qq <| sr <| mv R R <| av R R <| nt <| vq ?_
  cases h
  exact vW R R (.t R) (.slc 0 R)
end Go.Proofs.YtcgdfjpeboiioaaGreat
