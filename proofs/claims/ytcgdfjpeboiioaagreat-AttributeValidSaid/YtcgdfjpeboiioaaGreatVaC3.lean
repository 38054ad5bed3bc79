import Derived.Test.YtcgdfjpeboiioaaGreatVaC2
namespace Go.Proofs.YtcgdfjpeboiioaaGreat
open Go Go.Abs
attribute [local irreducible] Tryz.prog
theorem slices_Clone_string.conN (k : Nat) (a0 : (List Str)) (r : (List Str)) (h : slices_Clone_string k a0 = some r) : Con Tryz.prog 135 [] [SlcA kStr a0] (RApp 9 kStr r) := by
  unfold slices_Clone_string at h
  obtain ⟨hl, h⟩ := qK h
  cases h
  refine vJ (N := 8) Tryz.func135 R R R fun w0_ fg_ => ?_
  refine qX (qJ (ak R (qx (qq ?_))))
  refine qX (qX (qJ (mv R R (p1 R 3 R (q_nilAny (kd := kStr) (xs := a0) R elS93) (qx (qq ?_))))))
  refine W.condAny R (fun hp => ?_) (fun _ => ?_)
  · have hn := hp R
    subst hn
    refine qX (qJ (ak R (qx (qq ?_))))
    refine vq (qQ ?_)
    refine QR.to (StTo.newNil 9 kStr) ?_
    refine QR.to (StTo.as 2 R Imp.nilHd) ?_
    exact QR.tmp R R ⟨_, R, R⟩
  · refine qB (qq ?_)
    refine qX (qJ ?_)
    refine WL.p R R R .nil (q_lit0 R el93 gr9) ?_
    refine mv R R ?_
    refine WL.w [] R (qj R) R R (.s 5 R (.s 6 R .nil)) (w_appendZ (kd := kStr) R el93 R gr9 hl) ?_
    rintro _ _ ⟨v, rfl, rfl⟩
    refine av R R ?_
    refine qx (qq ?_)
    refine vq ?_
    exact QR.tmp R R ⟨_, R, R⟩
theorem slices_Clone_string.con (k : Nat) (a0 : (List Str)) (r : (List Str)) (h : slices_Clone_string k a0 = some r) : Con Tryz.prog 135 [] [SlcA kStr a0] (RA (SlcA kStr r)) := Con.free (slices_Clone_string.conN k a0 r h)
theorem types_Attrs.con (k : Nat) (a0 : Types) (a1 : Int) (r : ((List Attr) × Int)) (h : types_Attrs k a0 a1 = some r) : Con Tryz.prog 82 [] [AggA [SlcA kNodeType a0.fNodes, SlcA kEdgeType a0.fEdges], iA a1] (RA (TupA [SlcA kAttr r.1, iA r.2])) := by
 unfold types_Attrs at h
 refine vJ (N := 36) Tryz.func82 R R R fun w0_ fg_ => sr <| p1 R 0 R (q_box R (qy _)) <| ak R <| ak R <| nt <| qX <| sr <| lS R R sh35 R R <| mv R R ?_
 refine p1 R 10 R (q_lit (kd := kInt) (ps := [(0, .tmp 10)]) (xs := [.tmp 10]) («as» := [iA a1]) (ys := [a1]) R R el26 R gr3 R R R (.cons (qW R) .nil)) ?_
 obtain ⟨t100, ht100, h⟩ := vw h
 refine p2 R 9 R 11 R (vy (f := 133) (A := iA t100) (xs := [.tmp 9, .tmp 11]) («as» := [AggA [SlcA kNodeType a0.fNodes, SlcA kEdgeType a0.fEdges], SlcA kInt [a1]]) R ca133 (types_given.con k a0 [a1] t100 ht100) R) <| av R R <| qx <| qw (env' := [(6, _), (2, _), (1, _)]) (.o2 R (.one R (.nil _))) <| qq <| sr <| mv R R <| pk R 13 R (qN R R) <| nt ?_
 refine qZ h R (fun hb101 h => ?_) (fun hb101 h => ?_)
 ·refine sr <| mv R R <| ak R <| av R R <| nt <| vq <| qQ ?_
  cases h
  exact QR.f2 R R (.t R) (.t R) (.imp (Imp.tup (.cons (Imp.nil kAttr) (.cons (Imp.id _) .nil))))
 ·refine qB <| qq <| sr <| lS R R sh35 R R <| mv R R ?_
  obtain ⟨t102, ht102, h⟩ := vw h
  refine WL.w [] R (qj R) R R (.s 16 R (.s 17 R .nil)) (w_callI (f := 134) (xs := [.tmp 16, .tmp 17]) («as» := [AggA [SlcA kNodeType a0.fNodes, SlcA kEdgeType a0.fEdges], iA a1]) R ca134 (types_attrs.con k a0 a1 t102 ht102) R (.cons (Imp.id _) (.cons (Imp.id _) .nil))) ?_
  rintro _ _ ⟨v103, rfl, rfl⟩
  refine av R R <| qx <| qw (env' := [(7, _)]) (.one R (.nil _)) <| qq <| qX <| sr <| mv R R <| WL.q (qj R) R R (.s 19 R .nil) (q_lenO R elS90 (i := 0) R) <| mk_ R <| nt <| vx ?_
  refine W.loop2 (Γ := Unit) (fun (_ : Unit) (_ : (List Attr)) (x21 : Int) => [(7, HdA v103), (20, iA (t102.length : Int)), (21, iA x21)]) (fun (_ : Unit) (x7 : (List Attr)) (_ : Int) => [SlE 95 v103 kAttr x7]) h () (.o2 R (.one R (.nil _))) R (fun rec0 K0 next0 _ x7 x21 h => ?_)
  unfold types_Attrs.b0 at h
  refine sr <| p2 R 21 R 20 R (qN R R) <| nt <| qX ?_
  refine qZ h R (fun hb114 h => ?_) (fun hb114 h => ?_)
  ·refine qB <| qq <| qX <| vx <| sr <| mv R R <| av R R <| nt <| qJ <| mv R R <| mv R R ?_
   refine mv R R <| mv R R ?_
   obtain ⟨c115, h⟩ := qK h
   refine WL.q (qj R) R R (.s 26 R (.s 27 R .nil)) (q_indexO R el90 (j := 0) R c115.1 c115.2) <| p1 R 28 R (q_fieldE R fo95_3) <| WL.q (qj R) R R (.s 29 R .nil) (q_loadEl R sh93 (j := 0) R R c115.1 c115.2 R) ?_
   obtain ⟨t116, ht116, h⟩ := vw h
   refine p1 R 30 R (vy (f := 135) (A := SlcA kStr t116) (xs := [.tmp 30]) («as» := [SlcA kStr ((rd x7 x21).fNames)]) R ca135 (slices_Clone_string.con k ((rd x7 x21).fNames) t116 ht116) R) ?_
   obtain ⟨c117, h⟩ := qK h
   refine WL.q (qj R) R R (.s 24 R (.s 25 R .nil)) (q_indexO R el90 (j := 0) R c117.1 c117.2) <| p1 R 32 R (q_fieldE R fo95_3) <| WL.w0 [0] R (qj R) R (.s 33 R (.s 31 R .nil)) (w_storeEl (kd := kAttr) (z := (Attr.mk ((rd x7 x21).fName) ((rd x7 x21).fLow) ((rd x7 x21).fHigh) t116)) R sh93 (qW R) R R R c117.1 c117.2 R R) ?_
   rintro _ _ ⟨rfl, rfl⟩
   refine qx <| vZ <| qw (env' := [(21, _), (20, _), (7, _)]) (.o2 R (.one R (.nil _))) <| qq <| qJ ?_
   obtain ⟨c118, h⟩ := qK h
   refine pk R 21 R (vK R c118) <| mv R R <| qx ?_
   exact next0 () (x7.set (x21 : Int).toNat (Attr.mk ((rd x7 x21).fName) ((rd x7 x21).fLow) ((rd x7 x21).fHigh) t116)) (x21 + 1) _ h (.o2 R (.one R (.nil _)))
  ·refine W.exit <| qV <| qV <| vB <| qq <| sr <| mv R R <| av R R <| ak R <| nt <| vq ?_
   cases h
   exact QR.f2 R R (.t R) (.t R) (.tup (.cons (.slc 0 R) (.cons (.id _) .nil)))
theorem attribute_attr.con (k : Nat) (a0 : Types) (a1 : Pattern) (a2 : Slot) (r : (Attr × Bool)) (h : attribute_attr k a0 a1 a2 = some r) : Con Tryz.prog 55 [] [AggA [SlcA kNodeType a0.fNodes, SlcA kEdgeType a0.fEdges], AggA [SlcA kInt a1.fGraph.fNodes, SlcA kEdge a1.fGraph.fEdges, SlcA kSlot a1.fSlots, iA a1.fVars, SlcA kTest a1.fTests], AggA [iA a2.fNode, iA a2.fAttr, iA a2.fTerm.fVar, iA a2.fTerm.fAdd]] (RA (TupA [AggA [EqA (strV r.1.fName), iA r.1.fLow, iA r.1.fHigh, SlcA kStr r.1.fNames], bA r.2])) := by
 unfold attribute_attr at h
 refine vJ (N := 45) Tryz.func55 R R R fun w0_ fg_ => sr <| p1 R 0 R (q_box R (qy _)) <| p1 R 1 R (q_box R (qy _)) <| p1 R 2 R (q_box R (qy _)) <| WL.w [] R (qj R) R R .nil (w_alloc R z95 (l := [EqA (strV ([] : Str)), iA 0, iA 0, EqA (.slice none 0 0)]) R) ?_
 rintro _ _ ⟨b100, rfl, rfl⟩
 refine ak R <| nt <| qX <| sr <| fd R R fo113_0 R <| ld R R sh3 <| fd R R fo42_0 R <| fd R R fo38_0 R <| ld R R sh26 <| p1 R 14 R (vN R elS26) ?_
 obtain ⟨c101, h⟩ := qK h
 refine pk R 15 R (q_subR R c101) ?_
 obtain ⟨t102, ht102, h⟩ := vw h
 refine WL.p R R R (.s 11 R (.k (.s 16 R .nil))) (vy (f := 40) (A := bA t102) (xs := [.tmp 11, .const (.int .i64 0), .tmp 16]) («as» := [iA a2.fNode, iA 0, iA ((a1.fGraph.fNodes.length : Int) - 1)]) R ca40 (attribute_within.con k a2.fNode 0 ((a1.fGraph.fNodes.length : Int) - 1) t102 ht102) R) <| p1 R 17 R (q_not R) <| qx <| qw (env' := [(18, _), (6, _), (5, _), (4, _), (3, _)]) (.o4 R (.one R (.nil _))) <| qq ?_
 refine qZ h R (fun hb103 h => ?_) (fun hb103 h => ?_)
 ·refine sr <| WL.p R R R .nil (q_build (is := []) (xs := []) (L := [EqA (strV ([] : Str)), iA 0, iA 0, EqA (.slice none 0 0)]) R R z95 pl95 R R .nil R) <| WL.w0 [0] R (qj R) R (.s 6 R (.s 19 R .nil)) (w_store (L := [EqA (strV ([] : Str)), iA 0, iA 0, EqA (.slice none 0 0)]) R sh95 (qy _) R R (leB R) R) ?_
  rintro _ _ ⟨rfl, rfl⟩
  refine ak R <| nt <| vq <| qQ ?_
  cases h
  exact QR.f2 R R (.cs (i := 0) R sh95 R R) (.t R) (.imp (Imp.tup (.cons (Imp.agg (.cons (Imp.id _) (.cons (Imp.id _) (.cons (Imp.id _) (.cons (Imp.nil kStr) .nil))))) (.cons (Imp.id _) .nil))))
 ·refine qB <| qq <| qX <| W.drawK [(0, false), (1, false), (2, false), (3, false), (4, false), (5, false), (6, false), (7, false), (8, false), (9, false), (10, false), (11, false), (12, false), (13, false)] [] (bm [0, 0, 2, 6, 0, 16, 62, 126, 255, 511, 1023, 1023, 2047, 8191]) mx (by kernel_rfl) <| qz R R (.p R (.s 3 R .nil) R (q_loadS R sh35 (leB R) R)) <| df R R R fo42_0 R <| df R R R fo38_0 R <| dl R R R sh26 <| df R R R fo113_0 R <| dl R R R sh3 ?_
  obtain ⟨c108, h⟩ := qK h
  refine qz R R (.p R (.s 24 R (.s 26 R .nil)) R (vX R el26 R c108.1 c108.2)) <| dl R R R sh3 ?_
  obtain ⟨t109, ht109, h⟩ := vw h
  refine qz R R (.p R (.s 21 R (.s 28 R .nil)) R (vy (f := 82) (A := TupA [SlcA kAttr t109.1, iA t109.2]) (xs := [.tmp 21, .tmp 28]) («as» := [AggA [SlcA kNodeType a0.fNodes, SlcA kEdgeType a0.fEdges], iA (rd a1.fGraph.fNodes a2.fNode)]) R ca82 (types_Attrs.con k a0 (rd a1.fGraph.fNodes a2.fNode) t109 ht109) R)) <| dm R R R <| qz R R (.p R (.s 20 R .nil) R (vV R R)) <| qz R R (.p R (.s 20 R .nil) R (vV R R)) <| qz R R (.p R (.s 30 R .nil) R (q_assign R)) <| qz R R (.p R (.s 31 R .nil) R (q_assign R)) <| DK.nil <| CSteps.nil <| qw (env' := [(8, _), (6, _), (5, _)]) (.o2 R (.one R (.nil _))) <| qq <| qX <| sr ?_
  refine fd R R fo113_1 R <| ld R R sh3 <| mv R R <| p1 R 34 R (vN R elS90) ?_
  obtain ⟨c110, h⟩ := qK h
  refine pk R 35 R (q_subR R c110) ?_
  obtain ⟨t111, ht111, h⟩ := vw h
  refine WL.p R R R (.s 33 R (.k (.s 36 R .nil))) (vy (f := 40) (A := bA t111) (xs := [.tmp 33, .const (.int .i64 0), .tmp 36]) («as» := [iA a2.fAttr, iA 0, iA ((t109.1.length : Int) - 1)]) R ca40 (attribute_within.con k a2.fAttr 0 ((t109.1.length : Int) - 1) t111 ht111) R) <| p1 R 37 R (q_not R) <| nt ?_
  refine qZ h R (fun hb112 h => ?_) (fun hb112 h => ?_)
  ·refine sr <| WL.p R R R .nil (q_build (is := []) (xs := []) (L := [EqA (strV ([] : Str)), iA 0, iA 0, EqA (.slice none 0 0)]) R R z95 pl95 R R .nil R) <| WL.w0 [0] R (qj R) R (.s 6 R (.s 39 R .nil)) (w_store (L := [EqA (strV ([] : Str)), iA 0, iA 0, EqA (.slice none 0 0)]) R sh95 (qy _) R R (leB R) R) ?_
   rintro _ _ ⟨rfl, rfl⟩
   refine ak R <| qx <| qw (env' := [(7, _), (6, _)]) (.o2 R (.nil _)) <| qq <| vq <| qQ ?_
   cases h
   exact QR.f2 R R (.cs (i := 0) R sh95 R R) (.t R) (.imp (Imp.tup (.cons (Imp.agg (.cons (Imp.id _) (.cons (Imp.id _) (.cons (Imp.id _) (.cons (Imp.nil kStr) .nil))))) (.cons (Imp.id _) .nil))))
  ·refine qB <| qw (env' := [(8, _), (6, _), (5, _)]) (.o2 R (.one R (.nil _))) <| qq <| sr <| mv R R <| fd R R fo113_1 R <| ld R R sh3 ?_
   obtain ⟨c113, h⟩ := qK h
   refine p2 R 40 R 42 R (vX R el90 R c113.1 c113.2) <| lS R R sh95 R R <| WL.w0 [0] R (qj R) R (.s 6 R (.s 44 R .nil)) (w_store (L := [EqA (strV ((rd t109.1 a2.fAttr).fName)), iA ((rd t109.1 a2.fAttr).fLow), iA ((rd t109.1 a2.fAttr).fHigh), SlcA kStr ((rd t109.1 a2.fAttr).fNames)]) R sh95 (qy _) R R (leB R) R) ?_
   rintro _ _ ⟨rfl, rfl⟩
   refine ak R <| qx <| qw (env' := [(7, _), (6, _)]) (.o2 R (.nil _)) <| qq <| vq ?_
   cases h
   exact QR.f2 R R (.cs (i := 0) R sh95 R R) (.t R) (.id _)
theorem difference_term.con (k : Nat) (a0 : Int) (a1 : Term) (r : Bool) (h : difference_term k a0 a1 = some r) : Con Tryz.prog 151 [] [iA a0, AggA [iA a1.fVar, iA a1.fAdd]] (RA (bA r)) := by
 unfold difference_term at h
 refine vJ (N := 24) Tryz.func151 R R R fun w0_ fg_ => sr <| p1 R 1 R (q_box R (qy _)) <| ak R <| nt <| qX ?_
 refine W.jn1 (Γ := Unit) (fun (_ : Unit) (x4 : Bool) => [(4, bA x4)]) (fun (_ : Unit) (_ : Bool) => []) h (fun _ x4 h => ?_) (fun j104 Kj104 h => ?_)
 ·refine qq <| vq ?_
  cases h
  exact vW R R (.t R) (.id _)
 ·refine qJ <| fd R R fo23_0 R <| ld R R sh3 <| pk R 6 R (qN R R) <| mv R R ?_
  rcases bif_s h with ⟨hb105, h⟩ | ⟨hb105, h⟩
  ·refine wf R R R hb105 R R fo23_0 R <| wl R R R hb105 R R sh3 <| wm R R R hb105 R R <| wq R R R hb105 (.s 10 R (.s 11 R .nil)) (qN R R).o <| p2 R 8 R 12 R (vQ R hb105) <| mv R R ?_
   rcases bif_s h with ⟨hb106, h⟩ | ⟨hb106, h⟩
   ·refine wf R R R hb106 R R fo23_1 R <| wl R R R hb106 R R sh3 <| wq R R R hb106 (.s 16 R (.k .nil)) (qN R R).o <| p2 R 14 R 17 R (vQ R hb106) <| mv R R ?_
    rcases bif_s h with ⟨hb107, h⟩ | ⟨hb107, h⟩
    ·refine wf R R R hb107 R R fo23_1 R <| wl R R R hb107 R R sh3 <| wq R R R hb107 (.s 21 R (.k .nil)) (qN R R).o <| p2 R 19 R 22 R (vQ R hb107) <| av R R <| qx ?_
     exact qw (.one R (.nil _)) (Kj104 () (decide (a1.fAdd ≤ 1000000)) h)
    ·refine sk R R R hb107 <| sk R R R hb107 <| sk R R R hb107 <| pk R 19 R (vj R hb107) <| av R R <| qx ?_
     exact qw (.one R (.nil _)) (Kj104 () false h)
   ·refine sk R R R hb106 <| sk R R R hb106 <| sk R R R hb106 <| pk R 14 R (vj R hb106) <| mv R R <| sk R R R R <| sk R R R R <| sk R R R R <| pk R 19 R (vj R R) <| av R R <| qx ?_
    exact qw (.one R (.nil _)) (Kj104 () false h)
  ·refine sk R R R hb105 <| sk R R R hb105 <| sk R R R hb105 <| sk R R R hb105 <| pk R 8 R (vj R hb105) <| mv R R <| sk R R R R <| sk R R R R <| sk R R R R <| pk R 14 R (vj R R) <| mv R R <| sk R R R R <| sk R R R R ?_
   refine sk R R R R <| pk R 19 R (vj R R) <| av R R <| qx ?_
   exact qw (.one R (.nil _)) (Kj104 () false h)
theorem difference_one.con (k : Nat) (a0 : Int) (a1 : Test) (r : Int) (h : difference_one k a0 a1 = some r) : Con Tryz.prog 109 [] [iA a0, AggA [iA a1.fKind, iA a1.fLeft.fVar, iA a1.fLeft.fAdd, iA a1.fRight.fVar, iA a1.fRight.fAdd]] (RA (iA r)) := by
 unfold difference_one at h
 refine vJ (N := 27) Tryz.func109 R R R fun w0_ fg_ => sr <| p1 R 1 R (q_box R (qy _)) <| ak R <| nt <| qX <| vx <| qX ?_
 refine W.jn1 (Γ := Unit) (fun (_ : Unit) (x5 : Bool) => [(0, iA a0), (3, PtrA [iA a1.fKind, iA a1.fLeft.fVar, iA a1.fLeft.fAdd, iA a1.fRight.fVar, iA a1.fRight.fAdd]), (5, bA x5)]) (fun (_ : Unit) (_ : Bool) => []) h (fun _ x5 h => ?_) (fun j102 Kj102 h => ?_)
 ·refine qq ?_
  refine qZ h R (fun hb103 h => ?_) (fun hb103 h => ?_)
  ·refine sr <| ak R <| nt <| vq <| vz <| qQ ?_
   cases h
   exact vW R R (.t R) (.id _)
  ·refine qX ?_
   refine W.jn1 (Γ := Unit) (fun (_ : Unit) (x14 : Bool) => [(14, bA x14)]) (fun (_ : Unit) (_ : Bool) => []) h (fun _ x14 h => ?_) (fun j108 Kj108 h => ?_)
   ·refine qq ?_
    refine qZ h R (fun hb109 h => ?_) (fun hb109 h => ?_)
    ·refine sr <| ak R <| nt <| vq <| vz <| qQ ?_
     cases h
     exact vW R R (.t R) (.id _)
    ·refine qB <| vZ <| qq <| sr <| ak R <| nt <| vq ?_
     cases h
     exact vW R R (.t R) (.id _)
   ·refine qJ <| mv R R <| fd R R fo86_1 R <| lS R R sh23 R R ?_
    obtain ⟨t110, ht110, h⟩ := vw h
    refine p2 R 15 R 17 R (vy (f := 151) (A := bA t110) (xs := [.tmp 15, .tmp 17]) («as» := [iA a0, AggA [iA a1.fLeft.fVar, iA a1.fLeft.fAdd]]) R ca151 (difference_term.con k a0 a1.fLeft t110 ht110) R) <| p1 R 18 R (q_not R) <| mv R R ?_
    rcases bif_s h with ⟨hb111, h⟩ | ⟨hb111, h⟩
    ·refine sk R R R hb111 <| sk R R R hb111 <| sk R R R hb111 <| sk R R R hb111 <| sk R R R hb111 <| pk R 20 R (vQ R hb111) <| av R R <| qx ?_
     exact qw (.one R (.nil _)) (Kj108 () true h)
    ·refine wm R R R hb111 R R <| wf R R R hb111 R R fo86_2 R <| wq R R R hb111 (.s 22 R .nil) (q_loadS R sh23 (leB R) R).o ?_
     obtain ⟨t112, ht112, h⟩ := vw h
     refine wq R R R hb111 (.s 21 R (.s 23 R .nil)) (vy (f := 151) (A := bA t112) (xs := [.tmp 21, .tmp 23]) («as» := [iA a0, AggA [iA a1.fRight.fVar, iA a1.fRight.fAdd]]) R ca151 (difference_term.con k a0 a1.fRight t112 ht112) R).o <| wq R R R hb111 (.s 24 R .nil) (q_not R).o <| p2 R 20 R 25 R (vj R hb111) <| av R R <| qx ?_
     exact qw (.one R (.nil _)) (Kj108 () (!t112) h)
 ·refine qJ <| fd R R fo86_0 R <| ld R R sh3 <| pk R 7 R (qN R R) <| mv R R ?_
  rcases bif_s h with ⟨hb113, h⟩ | ⟨hb113, h⟩
  ·refine wf R R R hb113 R R fo86_0 R <| wl R R R hb113 R R sh3 <| wq R R R hb113 (.s 11 R (.k .nil)) (qN R R).o <| p2 R 9 R 12 R (vQ R hb113) <| av R R <| qx ?_
   exact qw (.o2 R (.one R (.nil _))) (Kj102 () (a1.fKind != 2) h)
  ·refine sk R R R hb113 <| sk R R R hb113 <| sk R R R hb113 <| pk R 9 R (vj R hb113) <| av R R <| qx ?_
   exact qw (.o2 R (.one R (.nil _))) (Kj102 () false h)
theorem difference_Valid.con (k : Nat) (a0 : Int) (a1 : (List Test)) (r : Int) (h : difference_Valid k a0 a1 = some r) : Con Tryz.prog 56 [] [iA a0, SlcA kTest a1] (RA (iA r)) := by
 unfold difference_Valid at h
 refine vJ (N := 30) Tryz.func56 R R R fun w0_ fg_ => sr <| ak R <| nt <| qX <| qX ?_
 refine W.jn1 (Γ := Unit) (fun (_ : Unit) (x13 : Bool) => [(0, iA a0), (1, SlcA kTest a1), (13, bA x13)]) (fun (_ : Unit) (_ : Bool) => []) h (fun _ x13 h => ?_) (fun j102 Kj102 h => ?_)
 ·refine qq ?_
  refine qZ h R (fun hb103 h => ?_) (fun hb103 h => ?_)
  ·refine sr <| ak R <| nt <| vq <| qQ ?_
   cases h
   exact vW R R (.t R) (.id _)
  ·refine qB <| qq <| qX <| sr <| mv R R <| p1 R 14 R (vN R elS40) <| pk R 15 R (qN R R) <| nt ?_
   refine qZ h R (fun hb104 h => ?_) (fun hb104 h => ?_)
   ·refine sr <| ak R <| nt <| vq <| qQ ?_
    cases h
    exact vW R R (.t R) (.id _)
   ·refine qB <| qq <| qX <| sr <| mv R R <| p1 R 17 R (vN R elS40) <| mk_ R <| nt <| vx ?_
    refine W.loop1 (Γ := Unit) (fun (_ : Unit) (x19 : Int) => [(0, iA a0), (17, SlcA kTest a1), (18, iA (a1.length : Int)), (19, iA x19)]) (fun (_ : Unit) (_ : Int) => []) h () (.o4 R (.nil _)) R (fun rec0 K0 next0 _ x19 h => ?_)
    unfold difference_Valid.b0 at h
    refine sr <| p2 R 19 R 18 R (qN R R) <| nt <| qX ?_
    refine qZ h R (fun hb117 h => ?_) (fun hb117 h => ?_)
    ·refine qB <| qq <| qX <| vx <| sr ?_
     obtain ⟨c118, h⟩ := qK h
     refine p2 R 17 R 19 R (vX R el40 R c118.1 c118.2) <| lS R R sh86 R R <| WL.w [] R (qj R) R R .nil (w_alloc R z86 (l := [iA 0, iA 0, iA 0, iA 0, iA 0]) R) ?_
     rintro _ _ ⟨b119, rfl, rfl⟩
     refine WL.w0 [0] R (qj R) R (.s 6 R (.s 22 R .nil)) (w_store (L := [iA ((rd a1 x19).fKind), iA ((rd a1 x19).fLeft.fVar), iA ((rd a1 x19).fLeft.fAdd), iA ((rd a1 x19).fRight.fVar), iA ((rd a1 x19).fRight.fAdd)]) R sh86 (qy _) R R (leB R) R) ?_
     rintro _ _ ⟨rfl, rfl⟩
     refine qx <| QN.to (StTo.still [0] 6 R R) <| qq <| sr <| mv R R <| lS R R sh86 R R ?_
     obtain ⟨t120, ht120, h⟩ := vw h
     refine p2 R 23 R 24 R (vy (f := 109) (A := iA t120) (xs := [.tmp 23, .tmp 24]) («as» := [iA a0, AggA [iA ((rd a1 x19).fKind), iA ((rd a1 x19).fLeft.fVar), iA ((rd a1 x19).fLeft.fAdd), iA ((rd a1 x19).fRight.fVar), iA ((rd a1 x19).fRight.fAdd)]]) R ca109 (difference_one.con k a0 (rd a1 x19) t120 ht120) R) <| av R R <| qx <| qw (env' := [(7, _), (19, _), (18, _), (17, _), (0, _)]) (.o4 R (.one R (.nil _))) <| qq <| sr <| mv R R <| pk R 26 R (qN R R) <| nt ?_
     refine qZ h R (fun hb121 h => ?_) (fun hb121 h => ?_)
     ·refine sr <| mv R R <| av R R <| qx <| qw (env' := [(4, _)]) (.one R (.nil _)) <| qq <| vq <| vz <| qQ <| qQ <| vz <| qQ ?_
      cases h
      exact vW R R (.t R) (.id _)
     ·refine qB <| vZ <| qq <| qJ ?_
      obtain ⟨c122, h⟩ := qK h
      refine pk R 19 R (vK R c122) <| mv R R <| qx ?_
      exact next0 () (x19 + 1) _ h (.o4 R (.nil _))
    ·refine W.exit <| qV <| qV <| vB <| qq <| sr <| ak R <| nt <| vq ?_
     cases h
     exact vW R R (.t R) (.id _)
 ·refine qJ <| mv R R <| pk R 8 R (qN R R) <| mv R R ?_
  rcases bif_s h with ⟨hb123, h⟩ | ⟨hb123, h⟩
  ·refine sk R R R hb123 <| sk R R R hb123 <| pk R 10 R (vQ R hb123) <| qx ?_
   exact qw (.o2 R (.one R (.nil _))) (Kj102 () true h)
  ·refine wm R R R hb123 R R <| wq R R R hb123 (.s 11 R (.k .nil)) (qN R R).o <| p2 R 10 R 12 R (vj R hb123) <| qx ?_
   exact qw (.o2 R (.one R (.nil _))) (Kj102 () (decide (a0 > 12)) h)
theorem slices_Index_bool.con (k : Nat) (a0 : (List Bool)) (a1 : Bool) (r : Int) (h : slices_Index_bool k a0 a1 = some r) : Con Tryz.prog 110 [] [SlcA kBool a0, bA a1] (RA (iA r)) := by
 unfold slices_Index_bool at h
 refine vJ (N := 19) Tryz.func110 R R R fun w0_ fg_ => sr <| ak R <| nt <| qX <| sr <| mv R R <| p1 R 6 R (vN R elS111) <| mk_ R <| qx ?_
 refine qq <| vx ?_
 refine W.loop1 (Γ := Unit) (fun (_ : Unit) (x8 : Int) => [(0, SlcA kBool a0), (1, bA a1), (7, iA (a0.length : Int)), (8, iA x8)]) (fun (_ : Unit) (_ : Int) => []) h () (.o4 R (.nil _)) R (fun rec0 K0 next0 _ x8 h => ?_)
 unfold slices_Index_bool.b0 at h
 refine sr <| p2 R 8 R 7 R (qN R R) <| nt <| qX ?_
 refine qZ h R (fun hb108 h => ?_) (fun hb108 h => ?_)
 ·refine qB <| qq <| qX <| vx <| sr <| mv R R <| av R R <| nx <| mv R R ?_
  refine mv R R <| mv R R ?_
  obtain ⟨c109, h⟩ := qK h
  refine p2 R 12 R 13 R (vX R el111 R c109.1 c109.2) <| ld R R sh4 <| p2 R 11 R 15 R (q_beq R isb4) <| qx <| qw (env' := [(16, _), (5, _), (8, _), (7, _), (1, _), (0, _)]) (.o4 R (.o2 R (.nil _))) <| qq ?_
  refine qZ h R (fun hb110 h => ?_) (fun hb110 h => ?_)
  ·refine sr <| mv R R <| av R R <| qx <| qw (env' := [(4, _)]) (.one R (.nil _)) <| qq <| vq <| vz <| qQ <| qQ <| vz <| qQ ?_
   cases h
   exact vW R R (.t R) (.id _)
  ·refine qB <| vZ <| qq <| qJ ?_
   obtain ⟨c111, h⟩ := qK h
   refine pk R 8 R (vK R c111) <| mv R R <| qx ?_
   exact next0 () (x8 + 1) _ h (.o4 R (.nil _))
 ·refine W.exit <| qV <| qV <| vB <| qq <| sr <| ak R <| nt <| vq ?_
  cases h
  exact vW R R (.t R) (.id _)
theorem slices_Contains_bool.con (k : Nat) (a0 : (List Bool)) (a1 : Bool) (r : Bool) (h : slices_Contains_bool k a0 a1 = some r) : Con Tryz.prog 57 [] [SlcA kBool a0, bA a1] (RA (bA r)) := by
 unfold slices_Contains_bool at h
 refine vJ (N := 9) Tryz.func57 R R R fun w0_ fg_ => sr <| ak R <| nx <| mv R R <| mv R R ?_
 obtain ⟨t100, ht100, h⟩ := vw h
 refine p2 R 5 R 6 R (vy (f := 110) (A := iA t100) (xs := [.tmp 5, .tmp 6]) («as» := [SlcA kBool a0, bA a1]) R ca110 (slices_Index_bool.con k a0 a1 t100 ht100) R) <| pk R 7 R (qN R R) <| av R R <| nt <| vq ?_
 cases h
 exact vW R R (.t R) (.id _)
theorem attribute_Valid.con (k : Nat) (a0 : Types) (a1 : Pattern) (r : Int) (h : attribute_Valid k a0 a1 = some r) : Con Tryz.prog 18 [] [AggA [SlcA kNodeType a0.fNodes, SlcA kEdgeType a0.fEdges], AggA [SlcA kInt a1.fGraph.fNodes, SlcA kEdge a1.fGraph.fEdges, SlcA kSlot a1.fSlots, iA a1.fVars, SlcA kTest a1.fTests]] (RA (iA r)) := by
 unfold attribute_Valid at h
 refine vJ (N := 110) Tryz.func18 R R R fun w0_ fg_ => sr <| p1 R 0 R (q_box R (qy _)) <| p1 R 1 R (q_box R (qy _)) <| ak R <| nt <| qX <| sr <| lS R R sh35 R R ?_
 obtain ⟨t100, ht100, h⟩ := vw h
 refine p1 R 15 R (vy (f := 49) (A := TupA [EqA (strV t100.1), iA t100.2]) (xs := [.tmp 15]) («as» := [AggA [SlcA kNodeType a0.fNodes, SlcA kEdgeType a0.fEdges]]) R ca49 (types_Valid.con k a0 t100 ht100) R) <| mv R R <| p1 R 14 R (vV R R) <| p1 R 14 R (vV R R) <| av R R <| av R R <| qx <| qw (env' := [(6, _), (3, _), (2, _)]) (.o2 R (.one R (.nil _))) <| qq <| sr <| mv R R <| pk R 19 R (qN R R) ?_
 refine nt ?_
 refine qZ h R (fun hb101 h => ?_) (fun hb101 h => ?_)
 ·refine sr <| mv R R <| av R R <| nt <| vq <| qQ ?_
  cases h
  exact vW R R (.t R) (.id _)
 ·refine qB <| qq <| qX <| sr <| fd R R fo42_0 R <| lS R R sh38 R R ?_
  obtain ⟨t102, ht102, h⟩ := vw h
  refine p1 R 23 R (vy (f := 50) (A := iA t102) (xs := [.tmp 23]) («as» := [AggA [SlcA kInt a1.fGraph.fNodes, SlcA kEdge a1.fGraph.fEdges]]) R ca50 (graph_Valid.con k a1.fGraph t102 ht102) R) <| av R R <| nx <| mv R R <| pk R 25 R (qN R R) <| qx <| qw (env' := [(26, _), (7, _), (3, _), (2, _)]) (.o4 R (.nil _)) <| qq ?_
  refine qZ h R (fun hb103 h => ?_) (fun hb103 h => ?_)
  ·refine sr <| mv R R <| av R R <| nt <| vq <| qQ ?_
   cases h
   exact vW R R (.t R) (.id _)
  ·refine qB <| qq <| qX <| qX ?_
   refine W.jn1 (Γ := Unit) (fun (_ : Unit) (x39 : Bool) => [(2, PtrA [SlcA kNodeType a0.fNodes, SlcA kEdgeType a0.fEdges]), (3, PtrA [SlcA kInt a1.fGraph.fNodes, SlcA kEdge a1.fGraph.fEdges, SlcA kSlot a1.fSlots, iA a1.fVars, SlcA kTest a1.fTests]), (39, bA x39)]) (fun (_ : Unit) (_ : Bool) => []) h (fun _ x39 h => ?_) (fun j108 Kj108 h => ?_)
   ·refine qq ?_
    refine qZ h R (fun hb109 h => ?_) (fun hb109 h => ?_)
    ·refine sr <| ak R <| nt <| vq <| qQ ?_
     cases h
     exact vW R R (.t R) (.id _)
    ·refine qB <| qq <| qX <| sr <| fd R R fo42_2 R <| ld R R sh3 ?_
     obtain ⟨t110, ht110, h⟩ := vw h
     refine WL.p R R R (.s 41 R (.k (.k .nil))) (vy (f := 40) (A := bA t110) (xs := [.tmp 41, .const (.int .i64 0), .const (.int .i64 12)]) («as» := [iA a1.fVars, iA 0, iA 12]) R ca40 (attribute_within.con k a1.fVars 0 12 t110 ht110) R) <| p1 R 42 R (q_not R) <| nt ?_
     refine qZ h R (fun hb111 h => ?_) (fun hb111 h => ?_)
     ·refine sr <| ak R <| qx <| qw (env' := [(4, _)]) (.one R (.nil _)) <| qq <| vq <| qQ ?_
      cases h
      exact vW R R (.t R) (.id _)
     ·refine qB <| qq <| qX <| qX ?_
      refine W.jn1 (Γ := Unit) (fun (_ : Unit) (x53 : Bool) => [(2, PtrA [SlcA kNodeType a0.fNodes, SlcA kEdgeType a0.fEdges]), (3, PtrA [SlcA kInt a1.fGraph.fNodes, SlcA kEdge a1.fGraph.fEdges, SlcA kSlot a1.fSlots, iA a1.fVars, SlcA kTest a1.fTests]), (53, bA x53)]) (fun (_ : Unit) (_ : Bool) => []) h (fun _ x53 h => ?_) (fun j114 Kj114 h => ?_)
      ·refine qq ?_
       refine qZ h R (fun hb115 h => ?_) (fun hb115 h => ?_)
       ·refine sr <| ak R <| nt <| vq <| qQ ?_
        cases h
        exact vW R R (.t R) (.id _)
       ·refine qB <| qq <| sr <| fd R R fo42_2 R <| ld R R sh3 ?_
        obtain ⟨c116, h⟩ := qK h
        refine WL.w [] R (qj R) R R (.s 55 R (.s 55 R .nil)) (w_make (kd := kBool) (z := false) R el111 R gr4 z4 R c116.1 c116.2) ?_
        rintro _ _ ⟨v117, rfl, rfl⟩
        refine av R R <| nt <| qX <| sr <| fd R R fo42_1 R <| ld R R sh39 <| p1 R 58 R (vN R elS39) <| mk_ R <| nt <| vx ?_
        refine W.loop2 (Γ := Unit) (fun (_ : Unit) (_ : (List Bool)) (x60 : Int) => [(2, PtrA [SlcA kNodeType a0.fNodes, SlcA kEdgeType a0.fEdges]), (3, PtrA [SlcA kInt a1.fGraph.fNodes, SlcA kEdge a1.fGraph.fEdges, SlcA kSlot a1.fSlots, iA a1.fVars, SlcA kTest a1.fTests]), (8, HdA v117), (58, SlcA kSlot a1.fSlots), (59, iA (a1.fSlots.length : Int)), (60, iA x60)]) (fun (_ : Unit) (x8 : (List Bool)) (_ : Int) => [SlE 4 v117 kBool x8]) h () (.o4 R (.o2 R (.nil _))) R (fun rec0 K0 next0 _ x8 x60 h => ?_)
        unfold attribute_Valid.b0 at h
        refine sr <| p2 R 60 R 59 R (qN R R) <| nt <| qX ?_
        refine qZ h R (fun hb174 h => ?_) (fun hb174 h => ?_)
        ·refine qB <| qq <| qX <| vx <| sr ?_
         obtain ⟨c175, h⟩ := qK h
         refine p2 R 58 R 60 R (vX R el39 R c175.1 c175.2) <| lS R R sh113 R R <| WL.w [] R (qj R) R R .nil (w_alloc R z113 (l := [iA 0, iA 0, iA 0, iA 0]) R) ?_
         rintro _ _ ⟨b176, rfl, rfl⟩
         refine WL.w0 [0] R (qj R) R (.s 10 R (.s 63 R .nil)) (w_store (L := [iA ((rd a1.fSlots x60).fNode), iA ((rd a1.fSlots x60).fAttr), iA ((rd a1.fSlots x60).fTerm.fVar), iA ((rd a1.fSlots x60).fTerm.fAdd)]) R sh113 (qy _) R R (leB R) R) ?_
         rintro _ _ ⟨rfl, rfl⟩
         refine qx <| QN.to (StTo.still [0] 10 R R) <| qq <| qX <| sr <| lS R R sh35 R R <| lS R R sh42 R R <| lS R R sh113 R R ?_
         obtain ⟨t177, ht177, h⟩ := vw h
         refine WL.p R R R (.s 65 R (.s 66 R (.s 67 R .nil))) (vy (f := 55) (A := TupA [AggA [EqA (strV t177.1.fName), iA t177.1.fLow, iA t177.1.fHigh, SlcA kStr t177.1.fNames], bA t177.2]) (xs := [.tmp 65, .tmp 66, .tmp 67]) («as» := [AggA [SlcA kNodeType a0.fNodes, SlcA kEdgeType a0.fEdges], AggA [SlcA kInt a1.fGraph.fNodes, SlcA kEdge a1.fGraph.fEdges, SlcA kSlot a1.fSlots, iA a1.fVars, SlcA kTest a1.fTests], AggA [iA ((rd a1.fSlots x60).fNode), iA ((rd a1.fSlots x60).fAttr), iA ((rd a1.fSlots x60).fTerm.fVar), iA ((rd a1.fSlots x60).fTerm.fAdd)]]) R ca55 (attribute_attr.con k a0 a1 (rd a1.fSlots x60) t177 ht177) R) <| mv R R <| p1 R 64 R (vV R R) <| p1 R 64 R (vV R R) <| WL.w [] R (qj R) R R .nil (w_alloc R z95 (l := [EqA (strV ([] : Str)), iA 0, iA 0, EqA (.slice none 0 0)]) R) ?_
         rintro _ _ ⟨b178, rfl, rfl⟩
         refine WL.w0 [0] R (qj R) R (.s 11 R (.s 69 R .nil)) (w_store (L := [EqA (strV t177.1.fName), iA t177.1.fLow, iA t177.1.fHigh, SlcA kStr t177.1.fNames]) R sh95 (qy _) R R (leB R) R) ?_
         rintro _ _ ⟨rfl, rfl⟩
         refine av R R <| qx <| QN.to (StTo.still [0] 11 R R) <| qw (env' := [(12, _), (10, _), (60, _), (59, _), (58, _), (8, _), (3, _), (2, _)]) (.o4 R (.o4 R (.nil _))) <| qq <| qX ?_
         refine W.jn1 (Γ := Unit) (fun (_ : Unit) (x89 : Bool) => [(2, PtrA [SlcA kNodeType a0.fNodes, SlcA kEdgeType a0.fEdges]), (3, PtrA [SlcA kInt a1.fGraph.fNodes, SlcA kEdge a1.fGraph.fEdges, SlcA kSlot a1.fSlots, iA a1.fVars, SlcA kTest a1.fTests]), (8, HdA v117), (58, SlcA kSlot a1.fSlots), (59, iA (a1.fSlots.length : Int)), (60, iA x60), (10, PtrA [iA ((rd a1.fSlots x60).fNode), iA ((rd a1.fSlots x60).fAttr), iA ((rd a1.fSlots x60).fTerm.fVar), iA ((rd a1.fSlots x60).fTerm.fAdd)]), (89, bA x89)]) (fun (_ : Unit) (_ : Bool) => [SlE 4 v117 kBool x8]) h (fun _ x89 h => ?_) (fun j185 Kj185 h => ?_)
         ·refine qq ?_
          refine qZ h R (fun hb186 h => ?_) (fun hb186 h => ?_)
          ·refine sr <| ak R <| qx <| qw (env' := [(4, _)]) (.one R (.nil _)) <| qq <| vq <| qQ <| vz <| qQ <| qQ <| vz <| qQ ?_
           cases h
           exact vW R R (.t R) (.id _)
          ·refine qB <| qq <| sr <| fd R R fo113_2 R <| fd R R fo23_0 R <| ld R R sh3 <| pk R 92 R (qN R R) <| nt ?_
           refine qZ h R (fun hb189 h => ?_) (fun hb189 h => ?_)
           ·refine qJ <| mv R R <| fd R R fo113_2 R <| fd R R fo23_0 R <| ld R R sh3 ?_
            obtain ⟨c190, h⟩ := qK h
            refine WL.q (qj R) R R (.s 94 R (.s 97 R .nil)) (q_indexO R el111 (j := 0) R c190.1 c190.2) <| WL.w0 [0] R (qj R) R (.s 98 R (.k .nil)) (w_storeEl (kd := kBool) (z := true) R sh4 (qW R) R R R c190.1 c190.2 R R) ?_
            rintro _ _ ⟨rfl, rfl⟩
            refine qx <| vZ <| qw (env' := [(60, _), (59, _), (58, _), (8, _), (3, _), (2, _)]) (.o4 R (.o2 R (.nil _))) <| qq <| qJ ?_
            obtain ⟨c191, h⟩ := qK h
            refine pk R 60 R (vK R c191) <| mv R R <| qx ?_
            exact next0 () (x8.set ((rd a1.fSlots x60).fTerm.fVar : Int).toNat true) (x60 + 1) _ h (.o4 R (.o2 R (.nil _)))
           ·refine qB <| vZ <| qq <| qJ ?_
            obtain ⟨c192, h⟩ := qK h
            refine pk R 60 R (vK R c192) <| mv R R <| qx ?_
            exact next0 () x8 (x60 + 1) _ h (.o4 R (.o2 R (.nil _)))
         ·refine qJ <| mv R R <| p1 R 71 R (q_not R) <| mv R R ?_
          rcases bif_s h with ⟨hb193, h⟩ | ⟨hb193, h⟩
          ·refine sk R R R hb193 <| sk R R R hb193 <| sk R R R hb193 <| sk R R R hb193 <| sk R R R hb193 <| sk R R R hb193 <| sk R R R hb193 <| sk R R R hb193 <| pk R 73 R (vQ R hb193) <| mv R R <| sk R R R R <| sk R R R R <| sk R R R R ?_
           refine sk R R R R <| sk R R R R <| pk R 83 R (vQ R R) <| qx ?_
           exact qw (.o4 R (.o4 R (.nil _))) (Kj185 () true h)
          ·refine wf R R R hb193 R R fo113_2 R <| wf R R R hb193 R R fo23_0 R <| wl R R R hb193 R R sh3 <| wf R R R hb193 R R fo42_2 R <| wl R R R hb193 R R sh3 ?_
           obtain ⟨c194, h⟩ := qK h
           refine wq R R R hb193 (.s 78 R (.k .nil)) (q_subR R c194).o ?_
           obtain ⟨t195, ht195, h⟩ := vw h
           refine wq R R R hb193 (.s 76 R (.k (.s 79 R .nil))) (vy (f := 40) (A := bA t195) (xs := [.tmp 76, .const (.int .i64 (-1)), .tmp 79]) («as» := [iA ((rd a1.fSlots x60).fTerm.fVar), iA (-1), iA (a1.fVars - 1)]) R ca40 (attribute_within.con k ((rd a1.fSlots x60).fTerm.fVar) (-1) (a1.fVars - 1) t195 ht195) R).o <| wq R R R hb193 (.s 80 R .nil) (q_not R).o <| p2 R 73 R 81 R (vj R hb193) <| mv R R ?_
           rcases bif_s h with ⟨hb196, h⟩ | ⟨hb196, h⟩
           ·refine sk R R R hb196 <| sk R R R hb196 <| sk R R R hb196 <| sk R R R hb196 <| sk R R R hb196 <| pk R 83 R (vQ R hb196) <| qx ?_
            exact qw (.o4 R (.o4 R (.nil _))) (Kj185 () true h)
           ·refine wf R R R hb196 R R fo113_2 R <| wf R R R hb196 R R fo23_1 R <| wl R R R hb196 R R sh3 ?_
            obtain ⟨t197, ht197, h⟩ := vw h
            refine wq R R R hb196 (.s 86 R (.k (.k .nil))) (vy (f := 40) (A := bA t197) (xs := [.tmp 86, .const (.int .i64 (-1000000)), .const (.int .i64 1000000)]) («as» := [iA ((rd a1.fSlots x60).fTerm.fAdd), iA (-1000000), iA 1000000]) R ca40 (attribute_within.con k ((rd a1.fSlots x60).fTerm.fAdd) (-1000000) 1000000 t197 ht197) R).o <| wq R R R hb196 (.s 87 R .nil) (q_not R).o <| p2 R 83 R 88 R (vj R hb196) <| qx ?_
            exact qw (.o4 R (.o4 R (.nil _))) (Kj185 () (!t197) h)
        ·refine W.exit <| qV <| qV <| vB <| qq <| qX <| sr <| fd R R fo42_2 R <| ld R R sh3 <| fd R R fo42_3 R <| ld R R sh40 ?_
         obtain ⟨t198, ht198, h⟩ := vw h
         refine p2 R 101 R 103 R (vy (f := 56) (A := iA t198) (xs := [.tmp 101, .tmp 103]) («as» := [iA a1.fVars, SlcA kTest a1.fTests]) R ca56 (difference_Valid.con k a1.fVars a1.fTests t198 ht198) R) <| av R R <| qx <| qw (env' := [(13, _), (8, _)]) (.o2 R (.nil _)) <| qq <| sr <| mv R R <| pk R 105 R (qN R R) <| nt ?_
         refine qZ h R (fun hb199 h => ?_) (fun hb199 h => ?_)
         ·refine sr <| mv R R <| av R R <| nt <| vq <| qQ ?_
          cases h
          exact vW R R (.t R) (.id _)
         ·refine qB <| qq <| qX <| sr <| mv R R ?_
          obtain ⟨t200, ht200, h⟩ := vw h
          refine WL.q (qj R) R R (.s 108 R (.k .nil)) (q_lend (f := 57) (A := bA t200) (xs := [.tmp 108, .const (.bool false)]) («as» := [HdA v117, bA false]) R ca57 (slices_Contains_bool.con k x8 false t200 ht200) R (.cons (.slc 0 R) (.cons (.id _) .nil)) (Flat.eq _)) <| nt ?_
          refine qZ h R (fun hb201 h => ?_) (fun hb201 h => ?_)
          ·refine sr <| ak R <| nt <| vq <| qQ ?_
           cases h
           exact vW R R (.t R) (.id _)
          ·refine qB <| qq <| sr <| ak R <| nt <| vq ?_
           cases h
           exact vW R R (.t R) (.id _)
      ·refine qJ <| fd R R fo42_1 R <| ld R R sh39 <| p1 R 45 R (vN R elS39) <| pk R 46 R (qN R R) <| mv R R ?_
       rcases bif_s h with ⟨hb202, h⟩ | ⟨hb202, h⟩
       ·refine sk R R R hb202 <| sk R R R hb202 <| sk R R R hb202 <| sk R R R hb202 <| pk R 48 R (vQ R hb202) <| qx ?_
        exact qw (.o2 R (.one R (.nil _))) (Kj114 () true h)
       ·refine wf R R R hb202 R R fo42_3 R <| wl R R R hb202 R R sh40 <| wq R R R hb202 (.s 50 R .nil) (vN R elS40).o <| wq R R R hb202 (.s 51 R (.k .nil)) (qN R R).o <| p2 R 48 R 52 R (vj R hb202) <| qx ?_
        exact qw (.o2 R (.one R (.nil _))) (Kj114 () (decide ((a1.fTests.length : Int) > 10)) h)
   ·refine qJ <| fd R R fo42_0 R <| fd R R fo38_0 R <| ld R R sh26 <| p1 R 2 R (q_makeFunc (xs := [.tmp 2]) (L := [PtrA [SlcA kNodeType a0.fNodes, SlcA kEdgeType a0.fEdges]]) («as» := (fun (x : Int) => [iA x])) (res := (fun (y : Bool) => bA y)) (p := (fun x => attribute_Valid_1 k x a0)) R ca52 R (fun x y hp => (attribute_Valid_1.con k x a0 y hp))) ?_
    obtain ⟨t203, ht203, h⟩ := vw h
    refine p2 R 30 R 31 R (vy (f := 51) (A := bA t203) (xs := [.tmp 30, .tmp 31]) («as» := [SlcA kInt a1.fGraph.fNodes, FnA Tryz.prog (fun (x : Int) => [iA x]) (fun (y : Bool) => bA y) (fun x => attribute_Valid_1 k x a0)]) R ca51 (slices_ContainsFunc_int.con k a1.fGraph.fNodes (fun x => attribute_Valid_1 k x a0) t203 ht203) R) <| mv R R ?_
    rcases bif_s h with ⟨hb204, h⟩ | ⟨hb204, h⟩
    ·refine sk R R R hb204 <| sk R R R hb204 <| sk R R R hb204 <| sk R R R hb204 <| sk R R R hb204 <| pk R 33 R (vQ R hb204) <| qx ?_
     exact qw (.o2 R (.one R (.nil _))) (Kj108 () true h)
    ·refine wf R R R hb204 R R fo42_0 R <| wf R R R hb204 R R fo38_1 R <| wl R R R hb204 R R sh36 <| wq R R R hb204 (.s 2 R .nil) (q_makeFunc (xs := [.tmp 2]) (L := [PtrA [SlcA kNodeType a0.fNodes, SlcA kEdgeType a0.fEdges]]) («as» := (fun (x : Edge) => [AggA [iA x.fType, iA x.fFrom, iA x.fTo]])) (res := (fun (y : Bool) => bA y)) (p := (fun x => attribute_Valid_2 k x a0)) R ca54 R (fun x y hp => (attribute_Valid_2.con k x a0 y hp))).o ?_
     obtain ⟨t205, ht205, h⟩ := vw h
     refine wq R R R hb204 (.s 36 R (.s 37 R .nil)) (vy (f := 53) (A := bA t205) (xs := [.tmp 36, .tmp 37]) («as» := [SlcA kEdge a1.fGraph.fEdges, FnA Tryz.prog (fun (x : Edge) => [AggA [iA x.fType, iA x.fFrom, iA x.fTo]]) (fun (y : Bool) => bA y) (fun x => attribute_Valid_2 k x a0)]) R ca53 (slices_ContainsFunc_Edge.con k a1.fGraph.fEdges (fun x => attribute_Valid_2 k x a0) t205 ht205) R).o <| p2 R 33 R 38 R (vj R hb204) <| qx ?_
     exact qw (.o2 R (.one R (.nil _))) (Kj108 () t205 h)
theorem host_node.con (k : Nat) (a0 : Types) (a1 : Int) (a2 : (List Int)) (r : Int) (h : host_node k a0 a1 a2 = some r) : Con Tryz.prog 156 [] [AggA [SlcA kNodeType a0.fNodes, SlcA kEdgeType a0.fEdges], iA a1, SlcA kInt a2] (RA (iA r)) := by
 unfold host_node at h
 refine vJ (N := 57) Tryz.func156 R R R fun w0_ fg_ => sr <| p1 R 0 R (q_box R (qy _)) <| ak R <| nt <| qX <| sr <| mv R R <| fd R R fo35_0 R <| ld R R sh32 ?_
 refine p1 R 13 R (vN R elS32) <| p2 R 11 R 14 R (qN R R) <| nt ?_
 refine qZ h R (fun hb100 h => ?_) (fun hb100 h => ?_)
 ·refine sr <| ak R <| qx <| qw (env' := [(6, _)]) (.one R (.nil _)) <| qq <| vq <| qQ ?_
  cases h
  exact vW R R (.t R) (.id _)
 ·refine qB <| qw (env' := [(3, _), (2, _), (1, _)]) (.o2 R (.one R (.nil _))) <| qq <| qX <| sr <| fd R R fo35_0 R <| ld R R sh32 <| mv R R ?_
  obtain ⟨c101, h⟩ := qK h
  refine p2 R 17 R 18 R (vX R el32 R c101.1 c101.2) <| fd R R fo92_2 R <| ld R R sh4 <| nt ?_
  refine qZ h R (fun hb102 h => ?_) (fun hb102 h => ?_)
  ·refine sr <| ak R <| qx <| qw (env' := [(6, _)]) (.one R (.nil _)) <| qq <| vq <| qQ ?_
   cases h
   exact vW R R (.t R) (.id _)
  ·refine qB <| qq <| sr <| lS R R sh35 R R <| mv R R ?_
   obtain ⟨t103, ht103, h⟩ := vw h
   refine p2 R 23 R 24 R (vy (f := 82) (A := TupA [SlcA kAttr t103.1, iA t103.2]) (xs := [.tmp 23, .tmp 24]) («as» := [AggA [SlcA kNodeType a0.fNodes, SlcA kEdgeType a0.fEdges], iA a1]) R ca82 (types_Attrs.con k a0 a1 t103 ht103) R) <| mv R R <| p1 R 22 R (vV R R) <| p1 R 22 R (vV R R) <| av R R <| av R R <| qx <| qw (env' := [(7, _), (2, _)]) (.o2 R (.nil _)) <| qq <| qX <| sr <| mv R R ?_
   refine p1 R 28 R (vN R elS26) <| mv R R <| p1 R 30 R (vN R elS90) <| p2 R 29 R 31 R (qN R R) <| nt ?_
   refine qZ h R (fun hb104 h => ?_) (fun hb104 h => ?_)
   ·refine sr <| ak R <| qx <| qw (env' := [(6, _)]) (.one R (.nil _)) <| qq <| vq <| qQ ?_
    cases h
    exact vW R R (.t R) (.id _)
   ·refine qB <| qq <| qX <| sr <| mv R R <| p1 R 33 R (vN R elS90) <| mk_ R <| nt <| vx ?_
    refine W.loop1 (Γ := Unit) (fun (_ : Unit) (x35 : Int) => [(2, SlcA kInt a2), (33, SlcA kAttr t103.1), (34, iA (t103.1.length : Int)), (35, iA x35)]) (fun (_ : Unit) (_ : Int) => []) h () (.o4 R (.nil _)) R (fun rec0 K0 next0 _ x35 h => ?_)
    unfold host_node.b0 at h
    refine sr <| p2 R 35 R 34 R (qN R R) <| nt <| qX ?_
    refine qZ h R (fun hb137 h => ?_) (fun hb137 h => ?_)
    ·refine qB <| qq <| qX <| vx <| sr <| mv R R ?_
     obtain ⟨c138, h⟩ := qK h
     refine p2 R 33 R 35 R (vX R el90 R c138.1 c138.2) <| lS R R sh95 R R <| WL.w [] R (qj R) R R .nil (w_alloc R z95 (l := [EqA (strV ([] : Str)), iA 0, iA 0, EqA (.slice none 0 0)]) R) ?_
     rintro _ _ ⟨b139, rfl, rfl⟩
     refine av R R <| WL.w0 [0] R (qj R) R (.s 10 R (.s 39 R .nil)) (w_store (L := [EqA (strV ((rd t103.1 x35).fName)), iA ((rd t103.1 x35).fLow), iA ((rd t103.1 x35).fHigh), SlcA kStr ((rd t103.1 x35).fNames)]) R sh95 (qy _) R R (leB R) R) ?_
     rintro _ _ ⟨rfl, rfl⟩
     refine qx <| QN.to (StTo.still [0] 10 R R) <| qq <| qX ?_
     refine W.jn1 (Γ := Unit) (fun (_ : Unit) (x55 : Bool) => [(2, SlcA kInt a2), (33, SlcA kAttr t103.1), (34, iA (t103.1.length : Int)), (35, iA x35), (55, bA x55)]) (fun (_ : Unit) (_ : Bool) => []) h (fun _ x55 h => ?_) (fun j147 Kj147 h => ?_)
     ·refine qq ?_
      refine qZ h R (fun hb148 h => ?_) (fun hb148 h => ?_)
      ·refine sr <| ak R <| nt <| vq <| vz <| qQ <| qQ <| vz <| qQ ?_
       cases h
       exact vW R R (.t R) (.id _)
      ·refine qB <| vZ <| qq <| qJ ?_
       obtain ⟨c149, h⟩ := qK h
       refine pk R 35 R (vK R c149) <| mv R R <| qx ?_
       exact next0 () (x35 + 1) _ h (.o4 R (.nil _))
     ·refine W.drawK [(0, false), (1, false), (2, false), (3, false), (4, false), (5, false), (6, false), (7, false), (8, false), (9, false), (10, false), (11, false), (12, false), (13, false), (14, false), (15, false)] [] (bm [0, 0, 3, 7, 0, 16, 63, 127, 255, 255, 1023, 2047, 255, 4351, 16383, 32767]) mx (by kernel_rfl) <| dm R R R <| dm R R R ?_
      obtain ⟨c150, h⟩ := qK h
      refine qz R R (.p R (.s 40 R (.s 41 R .nil)) R (vX R el26 R c150.1 c150.2)) <| dl R R R sh3 <| df R R R fo95_1 R <| dl R R R sh3 <| qz R R (.p R (.s 43 R (.s 45 R .nil)) R (qN R R)) <| dm R R R ?_
      rcases bif_s h with ⟨hb151, h⟩ | ⟨hb151, h⟩
      ·refine dx R R R hb151 <| dx R R R hb151 <| dx R R R hb151 <| dx R R R hb151 <| dx R R R hb151 <| dx R R R hb151 <| dx R R R hb151 <| qz R R (.p R (.s 47 R (.k .nil)) R (vQ R hb151)) <| DK.nil <| CSteps.nil ?_
       exact qw (.o4 R (.one R (.nil _))) (Kj147 () true h)
      ·refine qz R R (.gp R R R hb151 (.s 2 R .nil) R (q_move R)) <| qz R R (.gp R R R hb151 (.s 9 R .nil) R (q_move R)) ?_
       obtain ⟨c152, h⟩ := qK h
       refine qz R R (.gp R R R hb151 (.s 48 R (.s 49 R .nil)) R (vX R el26 R c152.1 c152.2)) <| qz R R (.gp R R R hb151 (.s 50 R .nil) R (q_load R sh3)) <| qz R R (.gp R R R hb151 (.s 10 R .nil) R (q_field R fo95_2 R)) <| qz R R (.gp R R R hb151 (.s 52 R .nil) R (q_load R sh3)) <| qz R R (.gp R R R hb151 (.s 51 R (.s 53 R .nil)) R (qN R R)) <| qz R R (.p R (.s 47 R (.s 54 R .nil)) R (vj R hb151)) <| DK.nil <| CSteps.nil ?_
       exact qw (.o4 R (.one R (.nil _))) (Kj147 () (decide ((rd a2 x35) > (rd t103.1 x35).fHigh)) h)
    ·refine W.exit <| qV <| qV <| vB <| qq <| sr <| ak R <| nt <| vq ?_
     cases h
     exact vW R R (.t R) (.id _)
theorem slices_Reverse_int.con (k : Nat) (w0 : Value) (a0 : (List Int)) (r : (List Int)) (h : slices_Reverse_int k a0 = some r) : Con Tryz.prog 211 [SlE 3 w0 kInt a0] [HdA w0] (fun O' A => O' = [SlE 3 w0 kInt r] ∧ A = TupA []) := by
 unfold slices_Reverse_int at h
 refine vJ (N := 28) Tryz.func211 R R R fun w0_ fg_ => sr <| mv R R <| WL.q (qj R) R R (.s 4 R .nil) (q_lenO R elS26 (i := 0) R) ?_
 obtain ⟨c100, h⟩ := qK h
 refine pk R 5 R (q_subR R c100) <| ak R <| av R R <| nt <| vx ?_
 refine W.loop3 (Γ := Unit) (fun (_ : Unit) (_ : (List Int)) (x2 : Int) (x3 : Int) => [(0, HdA w0), (2, iA x2), (3, iA x3)]) (fun (_ : Unit) (x0 : (List Int)) (_ : Int) (_ : Int) => [SlE 3 w0 kInt x0]) h () (.o2 R (.one R (.nil _))) R (fun rec0 K0 next0 _ x0 x2 x3 h => ?_)
 unfold slices_Reverse_int.b0 at h
 refine qX <| sr <| mv R R <| mv R R <| p2 R 7 R 8 R (qN R R) <| nt ?_
 refine qZ h R (fun hb131 h => ?_) (fun hb131 h => ?_)
 ·refine qB <| qq <| qX <| vx <| W.drawK [(0, false), (1, false), (2, false), (3, false), (4, false), (5, false), (6, true), (7, true), (8, false), (9, false), (10, true), (11, true), (12, true)] [13, 14, 15] (bm [0, 0, 0, 0, 0, 0, 48, 112, 0, 0, 768, 1792, 4083, 8179, 16383, 32767]) mx (by kernel_rfl) <| dm R R R <| dm R R R <| dm R R R <| dm R R R <| dm R R R <| dm R R R ?_
  obtain ⟨c140, h⟩ := qK h
  refine qz R R (.o R (.s 18 R (.s 19 R .nil)) R (q_indexO R el26 (j := 0) R c140.1 c140.2)) <| qz R R (.o R (.s 20 R .nil) R (q_loadEl R sh3 (j := 0) R R c140.1 c140.2 R)) <| dm R R R <| dm R R R ?_
  obtain ⟨c141, h⟩ := qK h
  refine qz R R (.o R (.s 22 R (.s 23 R .nil)) R (q_indexO R el26 (j := 0) R c141.1 c141.2)) <| qz R R (.o R (.s 24 R .nil) R (q_loadEl R sh3 (j := 0) R R c141.1 c141.2 R)) ?_
  obtain ⟨c142, h⟩ := qK h
  refine qz R R (.o R (.s 14 R (.s 15 R .nil)) R (q_indexO R el26 (j := 0) R c142.1 c142.2)) ?_
  obtain ⟨c143, h⟩ := qK h
  refine DK.nil <| CSteps.w0 [0] R R R (.s 26 R (.s 21 R .nil)) R (w_storeEl (kd := kInt) (z := (rd x0 x3)) R sh3 (qW R) R R R c142.1 c142.2 R R) ?_
  rintro _ _ ⟨rfl, rfl⟩
  refine CSteps.ro [0] R R R R (.s 16 R (.s 17 R .nil)) R (fun _ => (q_indexO R el26 (j := 0) R c143.1 c143.2)) <| CSteps.w0 [0] R R R (.s 27 R (.s 25 R .nil)) R (w_storeEl (kd := kInt) (z := (rd x0 x2)) R sh3 (qW R) R R R c143.1 c143.2 R R) ?_
  rintro _ _ ⟨rfl, rfl⟩
  refine CSteps.nil <| vZ <| qw (env' := [(3, _), (2, _), (0, _)]) (.o2 R (.one R (.nil _))) <| qq <| qJ <| mv R R ?_
  obtain ⟨c144, h⟩ := qK h
  refine pk R 10 R (vK R c144) <| mv R R ?_
  obtain ⟨c145, h⟩ := qK h
  refine pk R 12 R (q_subR R c145) <| av R R <| av R R <| qx ?_
  exact next0 () ((x0.set (x2 : Int).toNat (rd x0 x3)).set (x3 : Int).toNat (rd x0 x2)) (x2 + 1) (x3 - 1) _ h (.o2 R (.one R (.nil _)))
 ·refine W.exit <| qV <| qV <| vB ?_
  cases h
  exact QN.f0 R R ⟨R, R⟩
theorem types_line.con (k : Nat) (a0 : Types) (a1 : Int) (r : (List Int)) (h : types_line k a0 a1 = some r) : Con Tryz.prog 196 [] [AggA [SlcA kNodeType a0.fNodes, SlcA kEdgeType a0.fEdges], iA a1] (RA (SlcA kInt r)) := by
 unfold types_line at h
 refine vJ (N := 21) Tryz.func196 R R R fun w0_ fg_ => sr <| p1 R 0 R (q_box R (qy _)) <| ak R <| nx <| ak R <| nt <| qX ?_
 refine vx <| W.to (StTo.newNil 3 kInt) <| W.to (StTo.as 5 R Imp.nilHd) ?_
 refine W.loop2 (Γ := Value) (fun (g0 : Value) (x1 : Int) (_ : (List Int)) => [(1, iA x1), (2, PtrA [SlcA kNodeType a0.fNodes, SlcA kEdgeType a0.fEdges]), (5, HdA g0)]) (fun (g0 : Value) (_ : Int) (x5 : (List Int)) => [SlE 3 g0 kInt x5]) h (.slice none 0 0) (.o2 R (.one R (.nil _))) R (fun rec0 K0 next0 g0 x1 x5 h => ?_)
 unfold types_line.b0 at h
 refine qX <| sr <| mv R R <| pk R 6 R (qN R R) <| nt ?_
 refine qZ h R (fun hb118 h => ?_) (fun hb118 h => ?_)
 ·refine qB <| qq <| qX <| vx <| qJ <| mv R R <| mv R R <| p1 R 15 R (q_lit (kd := kInt) (ps := [(0, .tmp 15)]) (xs := [.tmp 15]) («as» := [iA x1]) (ys := [x1]) R R el26 R gr3 R R R (.cons (qW R) .nil)) ?_
  obtain ⟨c119, h⟩ := qK h
  refine WL.w [0] R (qj R) R R (.s 14 R (.s 16 R .nil)) (w_append (kd := kInt) R el26 R gr3 c119) ?_
  rintro _ _ ⟨v120, rfl, rfl⟩
  refine av R R <| qx <| vZ <| qq <| qJ <| fd R R fo35_0 R <| ld R R sh32 <| mv R R ?_
  obtain ⟨c121, h⟩ := qK h
  refine p2 R 9 R 10 R (vX R el32 R c121.1 c121.2) <| fd R R fo92_1 R <| ld R R sh3 <| av R R <| qx ?_
  exact next0 v120 ((rd a0.fNodes x1).fParent) (x5 ++ [x1]) _ h (.o2 R (.one R (.nil _)))
 ·refine W.exit <| qV <| qV <| vB <| qq <| sr <| mv R R ?_
  obtain ⟨t122, ht122, h⟩ := vw h
  refine WL.w [0] R (qj R) R R (.s 18 R .nil) (w_callI (f := 211) (xs := [.tmp 18]) («as» := [HdA g0]) R ca211 (slices_Reverse_int.con k g0 x5 t122 ht122) R (.cons (Imp.id _) .nil)) ?_
  rintro _ _ ⟨rfl, rfl⟩
  refine nx <| mv R R <| av R R <| qx <| qw (env' := [(4, _)]) (.one R (.nil _)) <| qq <| vq ?_
  cases h
  exact vW R R (.t R) (.slc 0 R)
theorem slices_Index_int.con (k : Nat) (a0 : (List Int)) (a1 : Int) (r : Int) (h : slices_Index_int k a0 a1 = some r) : Con Tryz.prog 210 [] [SlcA kInt a0, iA a1] (RA (iA r)) := by
 unfold slices_Index_int at h
 refine vJ (N := 19) Tryz.func210 R R R fun w0_ fg_ => sr <| ak R <| nt <| qX <| sr <| mv R R <| p1 R 6 R (vN R elS26) <| mk_ R <| qx ?_
 refine qq <| vx ?_
 refine W.loop1 (Γ := Unit) (fun (_ : Unit) (x8 : Int) => [(0, SlcA kInt a0), (1, iA a1), (7, iA (a0.length : Int)), (8, iA x8)]) (fun (_ : Unit) (_ : Int) => []) h () (.o4 R (.nil _)) R (fun rec0 K0 next0 _ x8 h => ?_)
 unfold slices_Index_int.b0 at h
 refine sr <| p2 R 8 R 7 R (qN R R) <| nt <| qX ?_
 refine qZ h R (fun hb108 h => ?_) (fun hb108 h => ?_)
 ·refine qB <| qq <| qX <| vx <| sr <| mv R R <| av R R <| nx <| mv R R ?_
  refine mv R R <| mv R R ?_
  obtain ⟨c109, h⟩ := qK h
  refine p2 R 12 R 13 R (vX R el26 R c109.1 c109.2) <| ld R R sh3 <| p2 R 11 R 15 R (qN R R) <| qx <| qw (env' := [(16, _), (5, _), (8, _), (7, _), (1, _), (0, _)]) (.o4 R (.o2 R (.nil _))) <| qq ?_
  refine qZ h R (fun hb110 h => ?_) (fun hb110 h => ?_)
  ·refine sr <| mv R R <| av R R <| qx <| qw (env' := [(4, _)]) (.one R (.nil _)) <| qq <| vq <| vz <| qQ <| qQ <| vz <| qQ ?_
   cases h
   exact vW R R (.t R) (.id _)
  ·refine qB <| vZ <| qq <| qJ ?_
   obtain ⟨c111, h⟩ := qK h
   refine pk R 8 R (vK R c111) <| mv R R <| qx ?_
   exact next0 () (x8 + 1) _ h (.o4 R (.nil _))
 ·refine W.exit <| qV <| qV <| vB <| qq <| sr <| ak R <| nt <| vq ?_
  cases h
  exact vW R R (.t R) (.id _)
theorem slices_Contains_int.con (k : Nat) (a0 : (List Int)) (a1 : Int) (r : Bool) (h : slices_Contains_int k a0 a1 = some r) : Con Tryz.prog 195 [] [SlcA kInt a0, iA a1] (RA (bA r)) := by
 unfold slices_Contains_int at h
 refine vJ (N := 9) Tryz.func195 R R R fun w0_ fg_ => sr <| ak R <| nx <| mv R R <| mv R R ?_
 obtain ⟨t100, ht100, h⟩ := vw h
 refine p2 R 5 R 6 R (vy (f := 210) (A := iA t100) (xs := [.tmp 5, .tmp 6]) («as» := [SlcA kInt a0, iA a1]) R ca210 (slices_Index_int.con k a0 a1 t100 ht100) R) <| pk R 7 R (qN R R) <| av R R <| nt <| vq ?_
 cases h
 exact vW R R (.t R) (.id _)
theorem types_is.con (k : Nat) (a0 : Types) (a1 : Int) (a2 : Int) (r : Bool) (h : types_is k a0 a1 a2 = some r) : Con Tryz.prog 172 [] [AggA [SlcA kNodeType a0.fNodes, SlcA kEdgeType a0.fEdges], iA a1, iA a2] (RA (bA r)) := by
 unfold types_is at h
 refine vJ (N := 12) Tryz.func172 R R R fun w0_ fg_ => sr <| p1 R 0 R (q_box R (qy _)) <| ak R <| nx <| lS R R sh35 R R <| mv R R ?_
 obtain ⟨t100, ht100, h⟩ := vw h
 refine p2 R 7 R 8 R (vy (f := 196) (A := SlcA kInt t100) (xs := [.tmp 7, .tmp 8]) («as» := [AggA [SlcA kNodeType a0.fNodes, SlcA kEdgeType a0.fEdges], iA a1]) R ca196 (types_line.con k a0 a1 t100 ht100) R) <| mv R R ?_
 obtain ⟨t101, ht101, h⟩ := vw h
 refine p2 R 9 R 10 R (vy (f := 195) (A := bA t101) (xs := [.tmp 9, .tmp 10]) («as» := [SlcA kInt t100, iA a2]) R ca195 (slices_Contains_int.con k t100 a2 t101 ht101) R) <| av R R <| qx <| qw (env' := [(6, _)]) (.one R (.nil _)) <| qq <| vq ?_
 cases h
 exact vW R R (.t R) (.id _)
theorem types_Fits.con (k : Nat) (a0 : Types) (a1 : Int) (a2 : Int) (a3 : Int) (r : Bool) (h : types_Fits k a0 a1 a2 a3 = some r) : Con Tryz.prog 157 [] [AggA [SlcA kNodeType a0.fNodes, SlcA kEdgeType a0.fEdges], iA a1, iA a2, iA a3] (RA (bA r)) := by
 unfold types_Fits at h
 refine vJ (N := 46) Tryz.func157 R R R fun w0_ fg_ => sr <| p1 R 0 R (q_box R (qy _)) <| ak R <| nt <| qX <| qX ?_
 refine W.jn1 (Γ := Unit) (fun (_ : Unit) (x25 : Bool) => [(1, iA a1), (2, iA a2), (3, iA a3), (4, PtrA [SlcA kNodeType a0.fNodes, SlcA kEdgeType a0.fEdges]), (25, bA x25)]) (fun (_ : Unit) (_ : Bool) => []) h (fun _ x25 h => ?_) (fun j104 Kj104 h => ?_)
 ·refine qq ?_
  refine qZ h R (fun hb105 h => ?_) (fun hb105 h => ?_)
  ·refine sr <| ak R <| nt <| vq <| qQ ?_
   cases h
   exact vW R R (.t R) (.id _)
  ·refine qB <| qq <| qX ?_
   refine W.jn1 (Γ := Unit) (fun (_ : Unit) (x8 : Bool) => [(8, bA x8)]) (fun (_ : Unit) (_ : Bool) => []) h (fun _ x8 h => ?_) (fun j117 Kj117 h => ?_)
   ·refine qq <| vq ?_
    cases h
    exact vW R R (.t R) (.id _)
   ·refine W.drawK [(0, false), (1, false), (2, false), (3, false), (4, false), (5, false), (6, false), (7, false), (8, false), (9, false), (10, false), (11, false), (12, false), (13, false), (14, false), (15, false), (16, false), (17, false), (18, false), (19, false), (20, false)] [] (bm [0, 0, 0, 4, 0, 28, 60, 124, 255, 511, 1023, 1023, 1023, 5119, 1023, 29695, 62463, 127999, 262143, 524287, 1048575]) mx (by kernel_rfl) <| qz R R (.p R (.s 4 R .nil) R (q_loadS R sh35 (leB R) R)) <| dm R R R <| df R R R fo35_1 R <| dl R R R sh33 <| dm R R R ?_
    obtain ⟨c118, h⟩ := qK h
    refine qz R R (.p R (.s 29 R (.s 30 R .nil)) R (vX R el33 R c118.1 c118.2)) <| df R R R fo97_1 R <| dl R R R sh3 ?_
    obtain ⟨t119, ht119, h⟩ := vw h
    refine qz R R (.p R (.s 26 R (.s 27 R (.s 33 R .nil))) R (vy (f := 172) (A := bA t119) (xs := [.tmp 26, .tmp 27, .tmp 33]) («as» := [AggA [SlcA kNodeType a0.fNodes, SlcA kEdgeType a0.fEdges], iA a2, iA ((rd a0.fEdges a1).fFrom)]) R ca172 (types_is.con k a0 a2 ((rd a0.fEdges a1).fFrom) t119 ht119) R)) <| dm R R R ?_
    rcases bif_s h with ⟨hb120, h⟩ | ⟨hb120, h⟩
    ·refine qz R R (.gp R R R hb120 (.s 4 R .nil) R (q_loadS R sh35 (leB R) R)) <| qz R R (.gp R R R hb120 (.s 3 R .nil) R (q_move R)) <| qz R R (.gp R R R hb120 (.s 4 R .nil) R (q_field R fo35_1 R)) <| qz R R (.gp R R R hb120 (.s 38 R .nil) R (q_load R sh33)) <| qz R R (.gp R R R hb120 (.s 1 R .nil) R (q_move R)) ?_
     obtain ⟨c121, h⟩ := qK h
     refine qz R R (.gp R R R hb120 (.s 39 R (.s 40 R .nil)) R (vX R el33 R c121.1 c121.2)) <| qz R R (.gp R R R hb120 (.s 41 R .nil) R (q_field R fo97_2 R)) <| qz R R (.gp R R R hb120 (.s 42 R .nil) R (q_load R sh3)) ?_
     obtain ⟨t122, ht122, h⟩ := vw h
     refine qz R R (.gp R R R hb120 (.s 36 R (.s 37 R (.s 43 R .nil))) R (vy (f := 172) (A := bA t122) (xs := [.tmp 36, .tmp 37, .tmp 43]) («as» := [AggA [SlcA kNodeType a0.fNodes, SlcA kEdgeType a0.fEdges], iA a3, iA ((rd a0.fEdges a1).fTo)]) R ca172 (types_is.con k a0 a3 ((rd a0.fEdges a1).fTo) t122 ht122) R)) <| qz R R (.p R (.s 35 R (.s 44 R .nil)) R (vQ R hb120)) <| qz R R (.p R (.s 45 R .nil) R (q_assign R)) <| DK.nil <| CSteps.nil ?_
     exact qw (.one R (.nil _)) (Kj117 () t122 h)
    ·refine dx R R R hb120 <| dx R R R hb120 <| dx R R R hb120 <| dx R R R hb120 <| dx R R R hb120 <| dx R R R hb120 <| dx R R R hb120 <| dx R R R hb120 <| dx R R R hb120 <| qz R R (.p R (.s 35 R (.k .nil)) R (vj R hb120)) <| qz R R (.p R (.s 45 R .nil) R (q_assign R)) <| DK.nil <| CSteps.nil ?_
     exact qw (.one R (.nil _)) (Kj117 () false h)
 ·refine qJ <| lS R R sh35 R R <| mv R R <| mv R R <| p2 R 10 R 11 R (q_lit (kd := kInt) (ps := [(0, .tmp 10), (1, .tmp 11)]) (xs := [.tmp 10, .tmp 11]) («as» := [iA a2, iA a3]) (ys := [a2, a3]) R R el26 R gr3 R R R (.cons (qW R) (.cons (qW R) .nil))) ?_
  obtain ⟨t123, ht123, h⟩ := vw h
  refine p2 R 9 R 12 R (vy (f := 133) (A := iA t123) (xs := [.tmp 9, .tmp 12]) («as» := [AggA [SlcA kNodeType a0.fNodes, SlcA kEdgeType a0.fEdges], SlcA kInt [a2, a3]]) R ca133 (types_given.con k a0 [a2, a3] t123 ht123) R) <| pk R 13 R (qN R R) <| mv R R ?_
  rcases bif_s h with ⟨hb124, h⟩ | ⟨hb124, h⟩
  ·refine sk R R R hb124 <| sk R R R hb124 <| pk R 15 R (vQ R hb124) <| mv R R <| sk R R R R <| sk R R R R <| sk R R R R <| sk R R R R <| sk R R R R <| pk R 19 R (vQ R R) <| qx ?_
   exact qw (.o4 R (.one R (.nil _))) (Kj104 () true h)
  ·refine wm R R R hb124 R R <| wq R R R hb124 (.s 16 R (.k .nil)) (qN R R).o <| p2 R 15 R 17 R (vj R hb124) <| mv R R ?_
   rcases bif_s h with ⟨hb125, h⟩ | ⟨hb125, h⟩
   ·refine sk R R R hb125 <| sk R R R hb125 <| sk R R R hb125 <| sk R R R hb125 <| sk R R R hb125 <| pk R 19 R (vQ R hb125) <| qx ?_
    exact qw (.o4 R (.one R (.nil _))) (Kj104 () true h)
   ·refine wm R R R hb125 R R <| wf R R R hb125 R R fo35_1 R <| wl R R R hb125 R R sh33 <| wq R R R hb125 (.s 22 R .nil) (vN R elS33).o <| wq R R R hb125 (.s 20 R (.s 23 R .nil)) (qN R R).o <| p2 R 19 R 24 R (vj R hb125) <| qx ?_
    exact qw (.o4 R (.one R (.nil _))) (Kj104 () (decide (a1 ≥ (a0.fEdges.length : Int))) h)
end Go.Proofs.YtcgdfjpeboiioaaGreat
