import Derived.Test.YtcgdfjpeboiioaaGreatVaC8
namespace Go.Proofs.YtcgdfjpeboiioaaGreat
open Go Go.Abs
attribute [local irreducible] Tryz.prog
theorem ref04_given.con (k : Nat) (a0 : Types) (a1 : Int) (a2 : Int) (r : Int) (h : ref04_given k a0 a1 a2 = some r) : Con Tryz.prog 138 [] [AggA [SlcA kNodeType a0.fNodes, SlcA kEdgeType a0.fEdges], iA a1, iA a2] (RA (iA r)) := by
 unfold ref04_given at h
 refine vJ (N := 33) Tryz.func138 R R R fun w0_ fg_ => sr <| p1 R 0 R (q_box R (qy _)) <| ak R <| nt <| qX <| sr <| lS R R sh35 R R ?_
 obtain ⟨t100, ht100, h⟩ := vw h
 refine p1 R 10 R (vy (f := 58) (A := TupA [EqA (strV t100.1), iA t100.2]) (xs := [.tmp 10]) («as» := [AggA [SlcA kNodeType a0.fNodes, SlcA kEdgeType a0.fEdges]]) R ca58 (ref04_Valid.con k a0 t100 ht100) R) <| mv R R <| p1 R 9 R (vV R R) <| p1 R 9 R (vV R R) <| av R R <| av R R <| qx <| qw (env' := [(8, _), (3, _), (2, _), (1, _)]) (.o4 R (.nil _)) <| qq <| sr <| mv R R <| pk R 14 R (qN R R) ?_
 refine nt ?_
 refine qZ h R (fun hb101 h => ?_) (fun hb101 h => ?_)
 ·refine sr <| mv R R <| av R R <| qx <| qw (env' := [(6, _)]) (.one R (.nil _)) <| qq <| vq <| qQ ?_
  cases h
  exact vW R R (.t R) (.id _)
 ·refine qB <| qq <| qX <| qX ?_
  refine W.jn1 (Γ := Unit) (fun (_ : Unit) (x32 : Bool) => [(32, bA x32)]) (fun (_ : Unit) (_ : Bool) => []) h (fun _ x32 h => ?_) (fun j108 Kj108 h => ?_)
  ·refine qq ?_
   refine qZ h R (fun hb109 h => ?_) (fun hb109 h => ?_)
   ·refine sr <| ak R <| nt <| vq <| qQ ?_
    cases h
    exact vW R R (.t R) (.id _)
   ·refine qB <| qq <| sr <| ak R <| nt <| vq ?_
    cases h
    exact vW R R (.t R) (.id _)
  ·refine qJ <| mv R R <| fd R R fo35_0 R <| ld R R sh32 <| p1 R 19 R (vN R elS32) ?_
   obtain ⟨c110, h⟩ := qK h
   refine pk R 20 R (q_subR R c110) ?_
   obtain ⟨t111, ht111, h⟩ := vw h
   refine WL.p R R R (.s 17 R (.k (.s 21 R .nil))) (vy (f := 140) (A := bA t111) (xs := [.tmp 17, .const (.int .i64 0), .tmp 21]) («as» := [iA a1, iA 0, iA ((a0.fNodes.length : Int) - 1)]) R ca140 (ref04_in.con k a1 0 ((a0.fNodes.length : Int) - 1) t111 ht111) R) <| p1 R 22 R (q_not R) <| mv R R ?_
   rcases bif_s h with ⟨hb112, h⟩ | ⟨hb112, h⟩
   ·refine sk R R R hb112 <| sk R R R hb112 <| sk R R R hb112 <| sk R R R hb112 <| sk R R R hb112 <| sk R R R hb112 <| sk R R R hb112 <| pk R 24 R (vQ R hb112) <| qx ?_
    exact qw (.one R (.nil _)) (Kj108 () true h)
   ·refine wm R R R hb112 R R <| wf R R R hb112 R R fo35_0 R <| wl R R R hb112 R R sh32 <| wq R R R hb112 (.s 27 R .nil) (vN R elS32).o ?_
    obtain ⟨c113, h⟩ := qK h
    refine wq R R R hb112 (.s 28 R (.k .nil)) (q_subR R c113).o ?_
    obtain ⟨t114, ht114, h⟩ := vw h
    refine wq R R R hb112 (.s 25 R (.k (.s 29 R .nil))) (vy (f := 140) (A := bA t114) (xs := [.tmp 25, .const (.int .i64 0), .tmp 29]) («as» := [iA a2, iA 0, iA ((a0.fNodes.length : Int) - 1)]) R ca140 (ref04_in.con k a2 0 ((a0.fNodes.length : Int) - 1) t114 ht114) R).o <| wq R R R hb112 (.s 30 R .nil) (q_not R).o <| p2 R 24 R 31 R (vj R hb112) <| qx ?_
    exact qw (.one R (.nil _)) (Kj108 () (!t114) h)
theorem ref04_Attrs.con (k : Nat) (a0 : Types) (a1 : Int) (r : ((List Attr) × Int)) (h : ref04_Attrs k a0 a1 = some r) : Con Tryz.prog 86 [] [AggA [SlcA kNodeType a0.fNodes, SlcA kEdgeType a0.fEdges], iA a1] (RA (TupA [SlcA kAttr r.1, iA r.2])) := by
 unfold ref04_Attrs at h
 refine vJ (N := 41) Tryz.func86 R R R fun w0_ fg_ => sr <| p1 R 0 R (q_box R (qy _)) <| ak R <| ak R <| nt <| qX <| sr <| lS R R sh35 R R <| mv R R ?_
 refine mv R R ?_
 obtain ⟨t100, ht100, h⟩ := vw h
 refine WL.p R R R (.s 11 R (.s 12 R (.s 13 R .nil))) (vy (f := 138) (A := iA t100) (xs := [.tmp 11, .tmp 12, .tmp 13]) («as» := [AggA [SlcA kNodeType a0.fNodes, SlcA kEdgeType a0.fEdges], iA a1, iA a1]) R ca138 (ref04_given.con k a0 a1 a1 t100 ht100) R) <| av R R <| qx <| qw (env' := [(6, _), (2, _), (1, _)]) (.o2 R (.one R (.nil _))) <| qq <| sr <| mv R R <| pk R 15 R (qN R R) <| nt ?_
 refine qZ h R (fun hb101 h => ?_) (fun hb101 h => ?_)
 ·refine sr <| mv R R <| ak R <| av R R <| nt <| vq <| qQ ?_
  cases h
  exact QR.f2 R R (.t R) (.t R) (.imp (Imp.tup (.cons (Imp.nil kAttr) (.cons (Imp.id _) .nil))))
 ·refine qB <| qq <| sr <| ak R <| nx <| lS R R sh35 R R <| mv R R ?_
  obtain ⟨t102, ht102, h⟩ := vw h
  refine p2 R 18 R 19 R (vy (f := 139) (A := SlcA kAttr t102) (xs := [.tmp 18, .tmp 19]) («as» := [AggA [SlcA kNodeType a0.fNodes, SlcA kEdgeType a0.fEdges], iA a1]) R ca139 (ref04_attrs.con k a0 a1 t102 ht102) R) <| av R R <| qx <| qw (env' := [(8, _), (7, _)]) (.o2 R (.nil _)) <| qq <| qX <| sr <| ak R <| nt <| vx <| W.to (StTo.newNil 95 kAttr) ?_
  refine W.to (StTo.as 7 R Imp.nilHd) ?_
  refine W.loop2 (Γ := Value) (fun (g0 : Value) (_ : (List Attr)) (x9 : Int) => [(7, HdA g0), (8, SlcA kAttr t102), (9, iA x9)]) (fun (g0 : Value) (x7 : (List Attr)) (_ : Int) => [SlE 95 g0 kAttr x7]) h (.slice none 0 0) (.o2 R (.one R (.nil _))) R (fun rec0 K0 next0 g0 x7 x9 h => ?_)
  unfold ref04_Attrs.b0 at h
  refine qX <| sr <| mv R R <| mv R R <| p1 R 22 R (vN R elS90) <| p2 R 21 R 23 R (qN R R) <| nt ?_
  refine qZ h R (fun hb124 h => ?_) (fun hb124 h => ?_)
  ·refine qB <| qq <| qX <| vx <| sr <| mv R R <| mv R R ?_
   obtain ⟨c125, h⟩ := qK h
   refine p2 R 27 R 28 R (vX R el90 R c125.1 c125.2) <| lS R R sh95 R R <| WL.w [] R (qj R) R R .nil (w_alloc R z95 (l := [EqA (strV ([] : Str)), iA 0, iA 0, EqA (.slice none 0 0)]) R) ?_
   rintro _ _ ⟨b126, rfl, rfl⟩
   refine WL.w0 [0] R (qj R) R (.s 10 R (.s 30 R .nil)) (w_store (L := [EqA (strV ((rd t102 x9).fName)), iA ((rd t102 x9).fLow), iA ((rd t102 x9).fHigh), SlcA kStr ((rd t102 x9).fNames)]) R sh95 (qy _) R R (leB R) R) ?_
   rintro _ _ ⟨rfl, rfl⟩
   refine qx <| qw (env' := [(10, _), (9, _), (8, _), (7, _)]) (.o4 R (.nil _)) <| qq <| sr <| WL.p R R R .nil (q_lit0 R el93 gr9) <| p1 R 10 R (q_fieldP R fo95_3) <| WL.q (qj R) R R (.s 32 R .nil) (q_loadB R sh93 (i := 0) R R) ?_
   obtain ⟨c127, h⟩ := qK h
   refine p2 R 31 R 33 R (QS.of_new (w_appendZ (kd := kStr) R el93 R gr9 c127)) <| p1 R 10 R (q_fieldP R fo95_3) <| WL.w0 [0] R (qj R) R (.s 35 R (.s 34 R .nil)) (w_store (L := [EqA (strV ((rd t102 x9).fName)), iA ((rd t102 x9).fLow), iA ((rd t102 x9).fHigh), SlcA kStr ((rd t102 x9).fNames)]) R sh93 (qW R) R R (leB R) R) ?_
   rintro _ _ ⟨rfl, rfl⟩
   refine nt <| qJ <| mv R R <| WL.q (qj R) R R (.s 10 R .nil) (q_loadBS (l' := [EqA (strV ((rd t102 x9).fName)), iA ((rd t102 x9).fLow), iA ((rd t102 x9).fHigh), SlcA kStr ((rd t102 x9).fNames)]) R sh95 (i := 0) R R R) <| p1 R 37 R (q_lit (kd := kAttr) (ps := [(0, .tmp 37)]) (xs := [.tmp 37]) («as» := [AggA [EqA (strV ((rd t102 x9).fName)), iA ((rd t102 x9).fLow), iA ((rd t102 x9).fHigh), SlcA kStr ((rd t102 x9).fNames)]]) (ys := [(rd t102 x9)]) R R el90 R gr95 R R R (.cons (qy _) .nil)) ?_
   obtain ⟨c128, h⟩ := qK h
   refine WL.w [1] R (qj R) R R (.s 36 R (.s 38 R .nil)) (w_append (kd := kAttr) R el90 R gr95 c128) ?_
   rintro _ _ ⟨v129, rfl, rfl⟩
   refine av R R <| qx <| vZ <| qw (env' := [(7, _), (9, _), (8, _)]) (.o2 R (.one R (.nil _))) <| qq <| qJ <| mv R R ?_
   obtain ⟨c130, h⟩ := qK h
   refine pk R 25 R (vK R c130) <| av R R <| qx <| QN.drop [1] R ?_
   exact next0 v129 (x7 ++ [(rd t102 x9)]) (x9 + 1) _ h (.o2 R (.one R (.nil _)))
  ·refine W.exit <| qV <| qV <| vB <| qq <| sr <| mv R R <| av R R <| ak R <| qx <| qw (env' := [(5, _), (4, _)]) (.o2 R (.nil _)) <| qq ?_
   refine vq ?_
   cases h
   exact QR.f2 R R (.t R) (.t R) (.tup (.cons (.slc 0 R) (.cons (.id _) .nil)))
theorem ref21_attr.con (k : Nat) (a0 : Types) (a1 : Pattern) (a2 : Int) (a3 : Int) (r : (Attr × Bool)) (h : ref21_attr k a0 a1 a2 a3 = some r) : Con Tryz.prog 61 [] [AggA [SlcA kNodeType a0.fNodes, SlcA kEdgeType a0.fEdges], AggA [SlcA kInt a1.fGraph.fNodes, SlcA kEdge a1.fGraph.fEdges, SlcA kSlot a1.fSlots, iA a1.fVars, SlcA kTest a1.fTests], iA a2, iA a3] (RA (TupA [AggA [EqA (strV r.1.fName), iA r.1.fLow, iA r.1.fHigh, SlcA kStr r.1.fNames], bA r.2])) := by
 unfold ref21_attr at h
 refine vJ (N := 51) Tryz.func61 R R R fun w0_ fg_ => sr <| p1 R 0 R (q_box R (qy _)) <| p1 R 1 R (q_box R (qy _)) <| WL.w [] R (qj R) R R .nil (w_alloc R z95 (l := [EqA (strV ([] : Str)), iA 0, iA 0, EqA (.slice none 0 0)]) R) ?_
 rintro _ _ ⟨b100, rfl, rfl⟩
 refine ak R <| nt <| qX <| qX ?_
 refine W.jn1 (Γ := Unit) (fun (_ : Unit) (x21 : Bool) => [(2, iA a2), (3, iA a3), (4, PtrA [SlcA kNodeType a0.fNodes, SlcA kEdgeType a0.fEdges]), (5, PtrA [SlcA kInt a1.fGraph.fNodes, SlcA kEdge a1.fGraph.fEdges, SlcA kSlot a1.fSlots, iA a1.fVars, SlcA kTest a1.fTests]), (8, EqA (.pointer (some ⟨b100, 0, none⟩))), (21, bA x21)]) (fun (_ : Unit) (_ : Bool) => [BoxE b100 [EqA (strV ([] : Str)), iA 0, iA 0, EqA (.slice none 0 0)]]) h (fun _ x21 h => ?_) (fun j103 Kj103 h => ?_)
 ·refine qq ?_
  refine qZ h R (fun hb104 h => ?_) (fun hb104 h => ?_)
  ·refine sr <| WL.p R R R .nil (q_build (is := []) (xs := []) (L := [EqA (strV ([] : Str)), iA 0, iA 0, EqA (.slice none 0 0)]) R R z95 pl95 R R .nil R) <| WL.w0 [0] R (qj R) R (.s 8 R (.s 22 R .nil)) (w_store (L := [EqA (strV ([] : Str)), iA 0, iA 0, EqA (.slice none 0 0)]) R sh95 (qy _) R R (leB R) R) ?_
   rintro _ _ ⟨rfl, rfl⟩
   refine ak R <| nt <| vq <| qQ ?_
   cases h
   exact QR.f2 R R (.cs (i := 0) R sh95 R R) (.t R) (.imp (Imp.tup (.cons (Imp.agg (.cons (Imp.id _) (.cons (Imp.id _) (.cons (Imp.id _) (.cons (Imp.nil kStr) .nil))))) (.cons (Imp.id _) .nil))))
  ·refine qB <| qq <| qX <| W.drawK [(0, false), (1, false), (2, false), (3, false), (4, false), (5, false), (6, false), (7, false), (8, false), (9, false), (10, false), (11, false), (12, false)] [] (bm [0, 0, 2, 6, 0, 30, 62, 127, 255, 511, 511, 1023, 4095]) mx (by kernel_rfl) <| qz R R (.p R (.s 4 R .nil) R (q_loadS R sh35 (leB R) R)) <| df R R R fo42_0 R <| df R R R fo38_0 R <| dl R R R sh26 <| dm R R R ?_
   obtain ⟨c109, h⟩ := qK h
   refine qz R R (.p R (.s 27 R (.s 28 R .nil)) R (vX R el26 R c109.1 c109.2)) <| dl R R R sh3 ?_
   obtain ⟨t110, ht110, h⟩ := vw h
   refine qz R R (.p R (.s 24 R (.s 30 R .nil)) R (vy (f := 86) (A := TupA [SlcA kAttr t110.1, iA t110.2]) (xs := [.tmp 24, .tmp 30]) («as» := [AggA [SlcA kNodeType a0.fNodes, SlcA kEdgeType a0.fEdges], iA (rd a1.fGraph.fNodes a2)]) R ca86 (ref04_Attrs.con k a0 (rd a1.fGraph.fNodes a2) t110 ht110) R)) <| dm R R R <| qz R R (.p R (.s 23 R .nil) R (vV R R)) <| qz R R (.p R (.s 23 R .nil) R (vV R R)) <| qz R R (.p R (.s 32 R .nil) R (q_assign R)) <| qz R R (.p R (.s 33 R .nil) R (q_assign R)) <| DK.nil <| CSteps.nil <| qw (env' := [(11, _), (10, _), (8, _), (3, _)]) (.o4 R (.nil _)) <| qq <| qX <| qX ?_
   refine W.jn1 (Γ := Unit) (fun (_ : Unit) (x45 : Bool) => [(3, iA a3), (8, EqA (.pointer (some ⟨b100, 0, none⟩))), (10, SlcA kAttr t110.1), (45, bA x45)]) (fun (_ : Unit) (_ : Bool) => [BoxE b100 [EqA (strV ([] : Str)), iA 0, iA 0, EqA (.slice none 0 0)]]) h (fun _ x45 h => ?_) (fun j114 Kj114 h => ?_)
   ·refine qq ?_
    refine qZ h R (fun hb115 h => ?_) (fun hb115 h => ?_)
    ·refine sr <| WL.p R R R .nil (q_build (is := []) (xs := []) (L := [EqA (strV ([] : Str)), iA 0, iA 0, EqA (.slice none 0 0)]) R R z95 pl95 R R .nil R) <| WL.w0 [0] R (qj R) R (.s 8 R (.s 46 R .nil)) (w_store (L := [EqA (strV ([] : Str)), iA 0, iA 0, EqA (.slice none 0 0)]) R sh95 (qy _) R R (leB R) R) ?_
     rintro _ _ ⟨rfl, rfl⟩
     refine ak R <| nt <| vq <| qQ ?_
     cases h
     exact QR.f2 R R (.cs (i := 0) R sh95 R R) (.t R) (.imp (Imp.tup (.cons (Imp.agg (.cons (Imp.id _) (.cons (Imp.id _) (.cons (Imp.id _) (.cons (Imp.nil kStr) .nil))))) (.cons (Imp.id _) .nil))))
    ·refine qB <| qq <| sr <| mv R R <| mv R R ?_
     obtain ⟨c116, h⟩ := qK h
     refine p2 R 47 R 48 R (vX R el90 R c116.1 c116.2) <| lS R R sh95 R R <| WL.w0 [0] R (qj R) R (.s 8 R (.s 50 R .nil)) (w_store (L := [EqA (strV ((rd t110.1 a3).fName)), iA ((rd t110.1 a3).fLow), iA ((rd t110.1 a3).fHigh), SlcA kStr ((rd t110.1 a3).fNames)]) R sh95 (qy _) R R (leB R) R) ?_
     rintro _ _ ⟨rfl, rfl⟩
     refine ak R <| qx <| qw (env' := [(9, _), (8, _)]) (.o2 R (.nil _)) <| qq <| vq ?_
     cases h
     exact QR.f2 R R (.cs (i := 0) R sh95 R R) (.t R) (.id _)
   ·refine qJ <| mv R R <| pk R 34 R (qN R R) <| mv R R ?_
    rcases bif_s h with ⟨hb117, h⟩ | ⟨hb117, h⟩
    ·refine sk R R R hb117 <| sk R R R hb117 <| pk R 36 R (vQ R hb117) <| mv R R <| sk R R R R <| sk R R R R <| sk R R R R <| sk R R R R <| pk R 40 R (vQ R R) <| qx ?_
     exact qw (.o4 R (.nil _)) (Kj114 () true h)
    ·refine wm R R R hb117 R R <| wq R R R hb117 (.s 37 R (.k .nil)) (qN R R).o <| p2 R 36 R 38 R (vj R hb117) <| mv R R ?_
     rcases bif_s h with ⟨hb118, h⟩ | ⟨hb118, h⟩
     ·refine sk R R R hb118 <| sk R R R hb118 <| sk R R R hb118 <| sk R R R hb118 <| pk R 40 R (vQ R hb118) <| qx ?_
      exact qw (.o4 R (.nil _)) (Kj114 () true h)
     ·refine wm R R R hb118 R R <| wm R R R hb118 R R <| wq R R R hb118 (.s 42 R .nil) (vN R elS90).o <| wq R R R hb118 (.s 41 R (.s 43 R .nil)) (qN R R).o <| p2 R 40 R 44 R (vj R hb118) <| qx ?_
      exact qw (.o4 R (.nil _)) (Kj114 () (decide (a3 ≥ (t110.1.length : Int))) h)
 ·refine qJ <| mv R R <| pk R 12 R (qN R R) <| mv R R ?_
  rcases bif_s h with ⟨hb119, h⟩ | ⟨hb119, h⟩
  ·refine sk R R R hb119 <| sk R R R hb119 <| sk R R R hb119 <| sk R R R hb119 <| sk R R R hb119 <| sk R R R hb119 <| pk R 14 R (vQ R hb119) <| qx ?_
   exact qw (.o4 R (.o2 R (.nil _))) (Kj103 () true h)
  ·refine wm R R R hb119 R R <| wf R R R hb119 R R fo42_0 R <| wf R R R hb119 R R fo38_0 R <| wl R R R hb119 R R sh26 <| wq R R R hb119 (.s 18 R .nil) (vN R elS26).o <| wq R R R hb119 (.s 15 R (.s 19 R .nil)) (qN R R).o <| p2 R 14 R 20 R (vj R hb119) <| qx ?_
   exact qw (.o4 R (.o2 R (.nil _))) (Kj103 () (decide (a2 ≥ (a1.fGraph.fNodes.length : Int))) h)
theorem ref21_bounded.con (k : Nat) (a0 : Int) (r : Bool) (h : ref21_bounded k a0 = some r) : Con Tryz.prog 62 [] [iA a0] (RA (bA r)) := by
 unfold ref21_bounded at h
 refine vJ (N := 9) Tryz.func62 R R R fun w0_ fg_ => sr <| ak R <| nt <| qX ?_
 refine W.jn1 (Γ := Unit) (fun (_ : Unit) (x2 : Bool) => [(2, bA x2)]) (fun (_ : Unit) (_ : Bool) => []) h (fun _ x2 h => ?_) (fun j102 Kj102 h => ?_)
 ·refine qq <| vq ?_
  cases h
  exact vW R R (.t R) (.id _)
 ·refine qJ <| mv R R <| pk R 3 R (qN R R) <| mv R R ?_
  rcases bif_s h with ⟨hb103, h⟩ | ⟨hb103, h⟩
  ·refine wm R R R hb103 R R <| wq R R R hb103 (.s 6 R (.k .nil)) (qN R R).o <| p2 R 5 R 7 R (vQ R hb103) <| av R R <| qx ?_
   exact qw (.one R (.nil _)) (Kj102 () (decide (a0 ≤ 1000000)) h)
  ·refine sk R R R hb103 <| sk R R R hb103 <| pk R 5 R (vj R hb103) <| av R R <| qx ?_
   exact qw (.one R (.nil _)) (Kj102 () false h)
theorem ref03_within.con (k : Nat) (a0 : Int) (a1 : Term) (r : Int) (h : ref03_within k a0 a1 = some r) : Con Tryz.prog 155 [] [iA a0, AggA [iA a1.fVar, iA a1.fAdd]] (RA (iA r)) := by
 unfold ref03_within at h
 refine vJ (N := 24) Tryz.func155 R R R fun w0_ fg_ => sr <| p1 R 1 R (q_box R (qy _)) <| ak R <| nt <| qX <| qX ?_
 refine W.jn1 (Γ := Unit) (fun (_ : Unit) (x23 : Bool) => [(23, bA x23)]) (fun (_ : Unit) (_ : Bool) => []) h (fun _ x23 h => ?_) (fun j104 Kj104 h => ?_)
 ·refine qq ?_
  refine qZ h R (fun hb105 h => ?_) (fun hb105 h => ?_)
  ·refine sr <| ak R <| nt <| vq <| qQ ?_
   cases h
   exact vW R R (.t R) (.id _)
  ·refine qB <| qq <| sr <| ak R <| nt <| vq ?_
   cases h
   exact vW R R (.t R) (.id _)
 ·refine qJ <| fd R R fo23_0 R <| ld R R sh3 <| pk R 6 R (qN R R) <| mv R R ?_
  rcases bif_s h with ⟨hb106, h⟩ | ⟨hb106, h⟩
  ·refine sk R R R hb106 <| sk R R R hb106 <| sk R R R hb106 <| sk R R R hb106 <| pk R 8 R (vQ R hb106) <| mv R R <| sk R R R R <| sk R R R R <| sk R R R R <| pk R 14 R (vQ R R) <| mv R R <| sk R R R R <| sk R R R R ?_
   refine sk R R R R <| pk R 19 R (vQ R R) <| qx ?_
   exact qw (.one R (.nil _)) (Kj104 () true h)
  ·refine wf R R R hb106 R R fo23_0 R <| wl R R R hb106 R R sh3 <| wm R R R hb106 R R <| wq R R R hb106 (.s 10 R (.s 11 R .nil)) (qN R R).o <| p2 R 8 R 12 R (vj R hb106) <| mv R R ?_
   rcases bif_s h with ⟨hb107, h⟩ | ⟨hb107, h⟩
   ·refine sk R R R hb107 <| sk R R R hb107 <| sk R R R hb107 <| pk R 14 R (vQ R hb107) <| mv R R <| sk R R R R <| sk R R R R <| sk R R R R <| pk R 19 R (vQ R R) <| qx ?_
    exact qw (.one R (.nil _)) (Kj104 () true h)
   ·refine wf R R R hb107 R R fo23_1 R <| wl R R R hb107 R R sh3 <| wq R R R hb107 (.s 16 R (.k .nil)) (qN R R).o <| p2 R 14 R 17 R (vj R hb107) <| mv R R ?_
    rcases bif_s h with ⟨hb108, h⟩ | ⟨hb108, h⟩
    ·refine sk R R R hb108 <| sk R R R hb108 <| sk R R R hb108 <| pk R 19 R (vQ R hb108) <| qx ?_
     exact qw (.one R (.nil _)) (Kj104 () true h)
    ·refine wf R R R hb108 R R fo23_1 R <| wl R R R hb108 R R sh3 <| wq R R R hb108 (.s 21 R (.k .nil)) (qN R R).o <| p2 R 19 R 22 R (vj R hb108) <| qx ?_
     exact qw (.one R (.nil _)) (Kj104 () (decide (a1.fAdd > 1000000)) h)
theorem ref03_One.con (k : Nat) (a0 : Int) (a1 : Test) (r : Int) (h : ref03_One k a0 a1 = some r) : Con Tryz.prog 115 [] [iA a0, AggA [iA a1.fKind, iA a1.fLeft.fVar, iA a1.fLeft.fAdd, iA a1.fRight.fVar, iA a1.fRight.fAdd]] (RA (iA r)) := by
 unfold ref03_One at h
 refine vJ (N := 25) Tryz.func115 R R R fun w0_ fg_ => sr <| p1 R 1 R (q_box R (qy _)) <| ak R <| nt <| qX <| qX ?_
 refine W.jn1 (Γ := Unit) (fun (_ : Unit) (x13 : Bool) => [(0, iA a0), (3, PtrA [iA a1.fKind, iA a1.fLeft.fVar, iA a1.fLeft.fAdd, iA a1.fRight.fVar, iA a1.fRight.fAdd]), (13, bA x13)]) (fun (_ : Unit) (_ : Bool) => []) h (fun _ x13 h => ?_) (fun j102 Kj102 h => ?_)
 ·refine qq ?_
  refine qZ h R (fun hb103 h => ?_) (fun hb103 h => ?_)
  ·refine sr <| ak R <| nt <| vq <| qQ ?_
   cases h
   exact vW R R (.t R) (.id _)
  ·refine qB <| qq <| qX <| sr <| mv R R <| fd R R fo86_1 R <| lS R R sh23 R R ?_
   obtain ⟨t104, ht104, h⟩ := vw h
   refine p2 R 14 R 16 R (vy (f := 155) (A := iA t104) (xs := [.tmp 14, .tmp 16]) («as» := [iA a0, AggA [iA a1.fLeft.fVar, iA a1.fLeft.fAdd]]) R ca155 (ref03_within.con k a0 a1.fLeft t104 ht104) R) <| av R R <| nx <| mv R R <| pk R 18 R (qN R R) <| nt ?_
   refine qZ h R (fun hb105 h => ?_) (fun hb105 h => ?_)
   ·refine sr <| mv R R <| av R R <| qx <| qw (env' := [(4, _)]) (.one R (.nil _)) <| qq <| vq <| qQ ?_
    cases h
    exact vW R R (.t R) (.id _)
   ·refine qB <| qw (env' := [(3, _), (0, _)]) (.o2 R (.nil _)) <| qq <| sr <| mv R R <| fd R R fo86_2 R <| lS R R sh23 R R ?_
    obtain ⟨t106, ht106, h⟩ := vw h
    refine p2 R 21 R 23 R (vy (f := 155) (A := iA t106) (xs := [.tmp 21, .tmp 23]) («as» := [iA a0, AggA [iA a1.fRight.fVar, iA a1.fRight.fAdd]]) R ca155 (ref03_within.con k a0 a1.fRight t106 ht106) R) <| av R R <| nt <| vq ?_
    cases h
    exact vW R R (.t R) (.id _)
 ·refine qJ <| fd R R fo86_0 R <| ld R R sh3 <| pk R 7 R (qN R R) <| mv R R ?_
  rcases bif_s h with ⟨hb107, h⟩ | ⟨hb107, h⟩
  ·refine wf R R R hb107 R R fo86_0 R <| wl R R R hb107 R R sh3 <| wq R R R hb107 (.s 11 R (.k .nil)) (qN R R).o <| p2 R 9 R 12 R (vQ R hb107) <| qx ?_
   exact qw (.o2 R (.one R (.nil _))) (Kj102 () (a1.fKind != 2) h)
  ·refine sk R R R hb107 <| sk R R R hb107 <| sk R R R hb107 <| pk R 9 R (vj R hb107) <| qx ?_
   exact qw (.o2 R (.one R (.nil _))) (Kj102 () false h)
theorem ref03_Valid.con (k : Nat) (a0 : Int) (a1 : (List Test)) (r : Int) (h : ref03_Valid k a0 a1 = some r) : Con Tryz.prog 63 [] [iA a0, SlcA kTest a1] (RA (iA r)) := by
 unfold ref03_Valid at h
 refine vJ (N := 31) Tryz.func63 R R R fun w0_ fg_ => sr <| ak R <| nt <| qX <| qX ?_
 refine W.jn1 (Γ := Unit) (fun (_ : Unit) (x12 : Bool) => [(0, iA a0), (1, SlcA kTest a1), (12, bA x12)]) (fun (_ : Unit) (_ : Bool) => []) h (fun _ x12 h => ?_) (fun j102 Kj102 h => ?_)
 ·refine qq ?_
  refine qZ h R (fun hb103 h => ?_) (fun hb103 h => ?_)
  ·refine sr <| ak R <| nt <| vq <| qQ ?_
   cases h
   exact vW R R (.t R) (.id _)
  ·refine qB <| qq <| qX <| sr <| mv R R <| p1 R 13 R (vN R elS40) <| pk R 14 R (qN R R) <| nt ?_
   refine qZ h R (fun hb104 h => ?_) (fun hb104 h => ?_)
   ·refine sr <| ak R <| nt <| vq <| qQ ?_
    cases h
    exact vW R R (.t R) (.id _)
   ·refine qB <| qq <| qX <| sr <| ak R <| nt <| vx ?_
    refine W.loop1 (Γ := Unit) (fun (_ : Unit) (x5 : Int) => [(0, iA a0), (1, SlcA kTest a1), (5, iA x5)]) (fun (_ : Unit) (_ : Int) => []) h () (.o2 R (.one R (.nil _))) R (fun rec0 K0 next0 _ x5 h => ?_)
    unfold ref03_Valid.b0 at h
    refine qX <| sr <| mv R R <| mv R R <| p1 R 17 R (vN R elS40) <| p2 R 16 R 18 R (qN R R) <| nt ?_
    refine qZ h R (fun hb115 h => ?_) (fun hb115 h => ?_)
    ·refine qB <| qq <| qX <| vx <| sr <| mv R R <| mv R R <| mv R R ?_
     obtain ⟨c116, h⟩ := qK h
     refine p2 R 23 R 24 R (vX R el40 R c116.1 c116.2) <| lS R R sh86 R R ?_
     obtain ⟨t117, ht117, h⟩ := vw h
     refine p2 R 22 R 26 R (vy (f := 115) (A := iA t117) (xs := [.tmp 22, .tmp 26]) («as» := [iA a0, AggA [iA ((rd a1 x5).fKind), iA ((rd a1 x5).fLeft.fVar), iA ((rd a1 x5).fLeft.fAdd), iA ((rd a1 x5).fRight.fVar), iA ((rd a1 x5).fRight.fAdd)]]) R ca115 (ref03_One.con k a0 (rd a1 x5) t117 ht117) R) <| av R R <| qx <| qw (env' := [(6, _), (5, _), (1, _), (0, _)]) (.o4 R (.nil _)) <| qq <| sr <| mv R R <| pk R 28 R (qN R R) <| nt ?_
     refine qZ h R (fun hb118 h => ?_) (fun hb118 h => ?_)
     ·refine sr <| mv R R <| av R R <| qx <| qw (env' := [(4, _)]) (.one R (.nil _)) <| qq <| vq <| vz <| qQ <| qQ <| vz <| qQ ?_
      cases h
      exact vW R R (.t R) (.id _)
     ·refine qB <| vZ <| qq <| qJ <| mv R R ?_
      obtain ⟨c119, h⟩ := qK h
      refine pk R 20 R (vK R c119) <| av R R <| qx ?_
      exact next0 () (x5 + 1) _ h (.o2 R (.one R (.nil _)))
    ·refine W.exit <| qV <| qV <| vB <| qw (env' := []) (.nil _) <| qq <| sr <| ak R <| nt <| vq ?_
     cases h
     exact vW R R (.t R) (.id _)
 ·refine qJ <| mv R R <| pk R 7 R (qN R R) <| mv R R ?_
  rcases bif_s h with ⟨hb120, h⟩ | ⟨hb120, h⟩
  ·refine sk R R R hb120 <| sk R R R hb120 <| pk R 9 R (vQ R hb120) <| qx ?_
   exact qw (.o2 R (.one R (.nil _))) (Kj102 () true h)
  ·refine wm R R R hb120 R R <| wq R R R hb120 (.s 10 R (.k .nil)) (qN R R).o <| p2 R 9 R 11 R (vj R hb120) <| qx ?_
   exact qw (.o2 R (.one R (.nil _))) (Kj102 () (decide (a0 > 12)) h)
theorem ref21_occurs.con (k : Nat) (a0 : Pattern) (a1 : Int) (r : Bool) (h : ref21_occurs k a0 a1 = some r) : Con Tryz.prog 64 [] [AggA [SlcA kInt a0.fGraph.fNodes, SlcA kEdge a0.fGraph.fEdges, SlcA kSlot a0.fSlots, iA a0.fVars, SlcA kTest a0.fTests], iA a1] (RA (bA r)) := by
 unfold ref21_occurs at h
 refine vJ (N := 22) Tryz.func64 R R R fun w0_ fg_ => sr <| p1 R 0 R (q_box R (qy _)) <| ak R <| nt <| qX <| sr <| ak R <| nt ?_
 refine vx ?_
 refine W.loop1 (Γ := Unit) (fun (_ : Unit) (x5 : Int) => [(1, iA a1), (2, PtrA [SlcA kInt a0.fGraph.fNodes, SlcA kEdge a0.fGraph.fEdges, SlcA kSlot a0.fSlots, iA a0.fVars, SlcA kTest a0.fTests]), (5, iA x5)]) (fun (_ : Unit) (_ : Int) => []) h () (.o2 R (.one R (.nil _))) R (fun rec0 K0 next0 _ x5 h => ?_)
 unfold ref21_occurs.b0 at h
 refine qX <| sr <| mv R R <| fd R R fo42_1 R <| ld R R sh39 <| p1 R 8 R (vN R elS39) <| p2 R 6 R 9 R (qN R R) <| nt ?_
 refine qZ h R (fun hb108 h => ?_) (fun hb108 h => ?_)
 ·refine qB <| qq <| qX <| vx <| sr <| fd R R fo42_1 R <| ld R R sh39 <| mv R R ?_
  obtain ⟨c109, h⟩ := qK h
  refine p2 R 14 R 15 R (vX R el39 R c109.1 c109.2) <| fd R R fo113_2 R <| fd R R fo23_0 R <| ld R R sh3 <| mv R R <| p2 R 19 R 20 R (qN R R) <| qx <| qw (env' := [(21, _), (5, _), (2, _), (1, _)]) (.o4 R (.nil _)) <| qq ?_
  refine qZ h R (fun hb110 h => ?_) (fun hb110 h => ?_)
  ·refine sr <| ak R <| nt <| vq <| vz <| qQ <| qQ <| vz <| qQ ?_
   cases h
   exact vW R R (.t R) (.id _)
  ·refine qB <| vZ <| qq <| qJ <| mv R R ?_
   obtain ⟨c111, h⟩ := qK h
   refine pk R 11 R (vK R c111) <| av R R <| qx ?_
   exact next0 () (x5 + 1) _ h (.o2 R (.one R (.nil _)))
 ·refine W.exit <| qV <| qV <| vB <| qw (env' := []) (.nil _) <| qq <| sr <| ak R <| nt <| vq ?_
  cases h
  exact vW R R (.t R) (.id _)
theorem ref21_Valid.con (k : Nat) (a0 : Types) (a1 : Pattern) (r : Int) (h : ref21_Valid k a0 a1 = some r) : Con Tryz.prog 19 [] [AggA [SlcA kNodeType a0.fNodes, SlcA kEdgeType a0.fEdges], AggA [SlcA kInt a1.fGraph.fNodes, SlcA kEdge a1.fGraph.fEdges, SlcA kSlot a1.fSlots, iA a1.fVars, SlcA kTest a1.fTests]] (RA (iA r)) := by
 unfold ref21_Valid at h
 refine vJ (N := 114) Tryz.func19 R R R fun w0_ fg_ => sr <| p1 R 0 R (q_box R (qy _)) <| p1 R 1 R (q_box R (qy _)) <| ak R <| nt <| qX <| sr <| lS R R sh35 R R ?_
 obtain ⟨t100, ht100, h⟩ := vw h
 refine p1 R 15 R (vy (f := 58) (A := TupA [EqA (strV t100.1), iA t100.2]) (xs := [.tmp 15]) («as» := [AggA [SlcA kNodeType a0.fNodes, SlcA kEdgeType a0.fEdges]]) R ca58 (ref04_Valid.con k a0 t100 ht100) R) <| mv R R <| p1 R 14 R (vV R R) <| p1 R 14 R (vV R R) <| av R R <| av R R <| qx <| qw (env' := [(6, _), (3, _), (2, _)]) (.o2 R (.one R (.nil _))) <| qq <| sr <| mv R R <| pk R 19 R (qN R R) ?_
 refine nt ?_
 refine qZ h R (fun hb101 h => ?_) (fun hb101 h => ?_)
 ·refine sr <| mv R R <| av R R <| nt <| vq <| qQ ?_
  cases h
  exact vW R R (.t R) (.id _)
 ·refine qB <| qq <| qX <| sr <| fd R R fo42_0 R <| lS R R sh38 R R ?_
  obtain ⟨t102, ht102, h⟩ := vw h
  refine p1 R 23 R (vy (f := 59) (A := iA t102) (xs := [.tmp 23]) («as» := [AggA [SlcA kInt a1.fGraph.fNodes, SlcA kEdge a1.fGraph.fEdges]]) R ca59 (ref05_Valid.con k a1.fGraph t102 ht102) R) <| av R R <| nx <| mv R R <| pk R 25 R (qN R R) <| qx <| qw (env' := [(26, _), (7, _), (3, _), (2, _)]) (.o4 R (.nil _)) <| qq ?_
  refine qZ h R (fun hb103 h => ?_) (fun hb103 h => ?_)
  ·refine sr <| mv R R <| av R R <| nt <| vq <| qQ ?_
   cases h
   exact vW R R (.t R) (.id _)
  ·refine qB <| qq <| qX <| sr <| lS R R sh35 R R <| fd R R fo42_0 R <| lS R R sh38 R R ?_
   obtain ⟨t104, ht104, h⟩ := vw h
   refine p2 R 28 R 30 R (vy (f := 60) (A := bA t104) (xs := [.tmp 28, .tmp 30]) («as» := [AggA [SlcA kNodeType a0.fNodes, SlcA kEdgeType a0.fEdges], AggA [SlcA kInt a1.fGraph.fNodes, SlcA kEdge a1.fGraph.fEdges]]) R ca60 (ref17_Typed.con k a0 a1.fGraph t104 ht104) R) <| p1 R 31 R (q_not R) <| nt ?_
   refine qZ h R (fun hb105 h => ?_) (fun hb105 h => ?_)
   ·refine sr <| ak R <| qx <| qw (env' := [(4, _)]) (.one R (.nil _)) <| qq <| vq <| qQ ?_
    cases h
    exact vW R R (.t R) (.id _)
   ·refine qB <| qw (env' := [(3, _), (2, _)]) (.o2 R (.nil _)) <| qq <| qX <| qX ?_
    refine W.jn1 (Γ := Unit) (fun (_ : Unit) (x40 : Bool) => [(2, PtrA [SlcA kNodeType a0.fNodes, SlcA kEdgeType a0.fEdges]), (3, PtrA [SlcA kInt a1.fGraph.fNodes, SlcA kEdge a1.fGraph.fEdges, SlcA kSlot a1.fSlots, iA a1.fVars, SlcA kTest a1.fTests]), (40, bA x40)]) (fun (_ : Unit) (_ : Bool) => []) h (fun _ x40 h => ?_) (fun j108 Kj108 h => ?_)
    ·refine qq ?_
     refine qZ h R (fun hb109 h => ?_) (fun hb109 h => ?_)
     ·refine sr <| ak R <| nt <| vq <| qQ ?_
      cases h
      exact vW R R (.t R) (.id _)
     ·refine qB <| qq <| qX <| qX ?_
      refine W.jn1 (Γ := Unit) (fun (_ : Unit) (x50 : Bool) => [(2, PtrA [SlcA kNodeType a0.fNodes, SlcA kEdgeType a0.fEdges]), (3, PtrA [SlcA kInt a1.fGraph.fNodes, SlcA kEdge a1.fGraph.fEdges, SlcA kSlot a1.fSlots, iA a1.fVars, SlcA kTest a1.fTests]), (50, bA x50)]) (fun (_ : Unit) (_ : Bool) => []) h (fun _ x50 h => ?_) (fun j112 Kj112 h => ?_)
      ·refine qq ?_
       refine qZ h R (fun hb113 h => ?_) (fun hb113 h => ?_)
       ·refine sr <| ak R <| nt <| vq <| qQ ?_
        cases h
        exact vW R R (.t R) (.id _)
       ·refine qB <| qq <| qX <| sr <| ak R <| nt <| vx ?_
        refine W.loop1 (Γ := Unit) (fun (_ : Unit) (x8 : Int) => [(2, PtrA [SlcA kNodeType a0.fNodes, SlcA kEdgeType a0.fEdges]), (3, PtrA [SlcA kInt a1.fGraph.fNodes, SlcA kEdge a1.fGraph.fEdges, SlcA kSlot a1.fSlots, iA a1.fVars, SlcA kTest a1.fTests]), (8, iA x8)]) (fun (_ : Unit) (_ : Int) => []) h () (.o2 R (.one R (.nil _))) R (fun rec0 K0 next0 _ x8 h => ?_)
        unfold ref21_Valid.b0 at h
        refine qX <| sr <| mv R R <| fd R R fo42_1 R <| ld R R sh39 <| p1 R 53 R (vN R elS39) <| p2 R 51 R 54 R (qN R R) <| nt ?_
        refine qZ h R (fun hb176 h => ?_) (fun hb176 h => ?_)
        ·refine qB <| qq <| qX <| vx <| sr <| fd R R fo42_1 R <| ld R R sh39 <| mv R R ?_
         obtain ⟨c177, h⟩ := qK h
         refine p2 R 59 R 60 R (vX R el39 R c177.1 c177.2) <| lS R R sh113 R R <| WL.w [] R (qj R) R R .nil (w_alloc R z113 (l := [iA 0, iA 0, iA 0, iA 0]) R) ?_
         rintro _ _ ⟨b178, rfl, rfl⟩
         refine WL.w0 [0] R (qj R) R (.s 9 R (.s 62 R .nil)) (w_store (L := [iA ((rd a1.fSlots x8).fNode), iA ((rd a1.fSlots x8).fAttr), iA ((rd a1.fSlots x8).fTerm.fVar), iA ((rd a1.fSlots x8).fTerm.fAdd)]) R sh113 (qy _) R R (leB R) R) ?_
         rintro _ _ ⟨rfl, rfl⟩
         refine qx <| QN.to (StTo.still [0] 9 R R) <| qw (env' := [(9, _), (8, _), (3, _), (2, _)]) (.o4 R (.nil _)) <| qq <| sr <| lS R R sh35 R R <| lS R R sh42 R R <| fd R R fo113_0 R <| ld R R sh3 <| fd R R fo113_1 R <| ld R R sh3 ?_
         obtain ⟨t179, ht179, h⟩ := vw h
         refine WL.p R R R (.s 64 R (.s 65 R (.s 67 R (.s 69 R .nil)))) (vy (f := 61) (A := TupA [AggA [EqA (strV t179.1.fName), iA t179.1.fLow, iA t179.1.fHigh, SlcA kStr t179.1.fNames], bA t179.2]) (xs := [.tmp 64, .tmp 65, .tmp 67, .tmp 69]) («as» := [AggA [SlcA kNodeType a0.fNodes, SlcA kEdgeType a0.fEdges], AggA [SlcA kInt a1.fGraph.fNodes, SlcA kEdge a1.fGraph.fEdges, SlcA kSlot a1.fSlots, iA a1.fVars, SlcA kTest a1.fTests], iA ((rd a1.fSlots x8).fNode), iA ((rd a1.fSlots x8).fAttr)]) R ca61 (ref21_attr.con k a0 a1 ((rd a1.fSlots x8).fNode) ((rd a1.fSlots x8).fAttr) t179 ht179) R) <| mv R R <| p1 R 63 R (vV R R) <| p1 R 63 R (vV R R) <| WL.w [] R (qj R) R R .nil (w_alloc R z95 (l := [EqA (strV ([] : Str)), iA 0, iA 0, EqA (.slice none 0 0)]) R) ?_
         rintro _ _ ⟨b180, rfl, rfl⟩
         refine WL.w0 [0] R (qj R) R (.s 10 R (.s 71 R .nil)) (w_store (L := [EqA (strV t179.1.fName), iA t179.1.fLow, iA t179.1.fHigh, SlcA kStr t179.1.fNames]) R sh95 (qy _) R R (leB R) R) ?_
         rintro _ _ ⟨rfl, rfl⟩
         refine av R R <| qx <| QN.to (StTo.still [0] 10 R R) <| qw (env' := [(11, _), (9, _), (8, _), (3, _), (2, _)]) (.o4 R (.one R (.nil _))) <| qq <| qX ?_
         refine W.jn1 (Γ := Unit) (fun (_ : Unit) (x95 : Bool) => [(2, PtrA [SlcA kNodeType a0.fNodes, SlcA kEdgeType a0.fEdges]), (3, PtrA [SlcA kInt a1.fGraph.fNodes, SlcA kEdge a1.fGraph.fEdges, SlcA kSlot a1.fSlots, iA a1.fVars, SlcA kTest a1.fTests]), (8, iA x8), (95, bA x95)]) (fun (_ : Unit) (_ : Bool) => []) h (fun _ x95 h => ?_) (fun j186 Kj186 h => ?_)
         ·refine qq ?_
          refine qZ h R (fun hb187 h => ?_) (fun hb187 h => ?_)
          ·refine sr <| ak R <| nt <| vq <| vz <| qQ <| qQ <| vz <| qQ ?_
           cases h
           exact vW R R (.t R) (.id _)
          ·refine qB <| vZ <| qq <| qJ <| mv R R ?_
           obtain ⟨c188, h⟩ := qK h
           refine pk R 56 R (vK R c188) <| av R R <| qx ?_
           exact next0 () (x8 + 1) _ h (.o2 R (.one R (.nil _)))
         ·refine qJ <| mv R R <| p1 R 73 R (q_not R) <| mv R R ?_
          rcases bif_s h with ⟨hb189, h⟩ | ⟨hb189, h⟩
          ·refine sk R R R hb189 <| sk R R R hb189 <| sk R R R hb189 <| sk R R R hb189 <| pk R 75 R (vQ R hb189) <| mv R R <| sk R R R R <| sk R R R R <| sk R R R R <| sk R R R R <| sk R R R R <| sk R R R R <| pk R 81 R (vQ R R) ?_
           refine mv R R <| sk R R R R <| sk R R R R <| sk R R R R <| sk R R R R <| sk R R R R <| pk R 89 R (vQ R R) <| qx ?_
           exact qw (.o4 R (.nil _)) (Kj186 () true h)
          ·refine wf R R R hb189 R R fo113_2 R <| wf R R R hb189 R R fo23_0 R <| wl R R R hb189 R R sh3 <| wq R R R hb189 (.s 78 R (.k .nil)) (qN R R).o <| p2 R 75 R 79 R (vj R hb189) <| mv R R ?_
           rcases bif_s h with ⟨hb190, h⟩ | ⟨hb190, h⟩
           ·refine sk R R R hb190 <| sk R R R hb190 <| sk R R R hb190 <| sk R R R hb190 <| sk R R R hb190 <| sk R R R hb190 <| pk R 81 R (vQ R hb190) <| mv R R <| sk R R R R <| sk R R R R <| sk R R R R <| sk R R R R <| sk R R R R ?_
            refine pk R 89 R (vQ R R) <| qx ?_
            exact qw (.o4 R (.nil _)) (Kj186 () true h)
           ·refine wf R R R hb190 R R fo113_2 R <| wf R R R hb190 R R fo23_0 R <| wl R R R hb190 R R sh3 <| wf R R R hb190 R R fo42_2 R <| wl R R R hb190 R R sh3 <| wq R R R hb190 (.s 84 R (.s 86 R .nil)) (qN R R).o <| p2 R 81 R 87 R (vj R hb190) <| mv R R ?_
            rcases bif_s h with ⟨hb191, h⟩ | ⟨hb191, h⟩
            ·refine sk R R R hb191 <| sk R R R hb191 <| sk R R R hb191 <| sk R R R hb191 <| sk R R R hb191 <| pk R 89 R (vQ R hb191) <| qx ?_
             exact qw (.o4 R (.nil _)) (Kj186 () true h)
            ·refine wf R R R hb191 R R fo113_2 R <| wf R R R hb191 R R fo23_1 R <| wl R R R hb191 R R sh3 ?_
             obtain ⟨t192, ht192, h⟩ := vw h
             refine wq R R R hb191 (.s 92 R .nil) (vy (f := 62) (A := bA t192) (xs := [.tmp 92]) («as» := [iA ((rd a1.fSlots x8).fTerm.fAdd)]) R ca62 (ref21_bounded.con k ((rd a1.fSlots x8).fTerm.fAdd) t192 ht192) R).o <| wq R R R hb191 (.s 93 R .nil) (q_not R).o <| p2 R 89 R 94 R (vj R hb191) <| qx ?_
             exact qw (.o4 R (.nil _)) (Kj186 () (!t192) h)
        ·refine W.exit <| qV <| qV <| vB <| qw (env' := [(3, _)]) (.one R (.nil _)) <| qq <| qX <| sr <| fd R R fo42_2 R <| ld R R sh3 <| fd R R fo42_3 R <| ld R R sh40 ?_
         obtain ⟨t193, ht193, h⟩ := vw h
         refine p2 R 97 R 99 R (vy (f := 63) (A := iA t193) (xs := [.tmp 97, .tmp 99]) («as» := [iA a1.fVars, SlcA kTest a1.fTests]) R ca63 (ref03_Valid.con k a1.fVars a1.fTests t193 ht193) R) <| av R R <| nx <| mv R R <| pk R 101 R (qN R R) <| nt ?_
         refine qZ h R (fun hb194 h => ?_) (fun hb194 h => ?_)
         ·refine sr <| mv R R <| av R R <| qx <| qw (env' := [(4, _)]) (.one R (.nil _)) <| qq <| vq <| qQ ?_
          cases h
          exact vW R R (.t R) (.id _)
         ·refine qB <| qw (env' := [(3, _)]) (.one R (.nil _)) <| qq <| qX <| sr <| ak R <| nt <| vx ?_
          refine W.loop1 (Γ := Unit) (fun (_ : Unit) (x13 : Int) => [(3, PtrA [SlcA kInt a1.fGraph.fNodes, SlcA kEdge a1.fGraph.fEdges, SlcA kSlot a1.fSlots, iA a1.fVars, SlcA kTest a1.fTests]), (13, iA x13)]) (fun (_ : Unit) (_ : Int) => []) h () (.o2 R (.nil _)) R (fun rec1 K1 next1 _ x13 h => ?_)
          unfold ref21_Valid.b1 at h
          refine qX <| sr <| mv R R <| fd R R fo42_2 R <| ld R R sh3 <| p2 R 104 R 106 R (qN R R) <| nt ?_
          refine qZ h R (fun hb203 h => ?_) (fun hb203 h => ?_)
          ·refine qB <| qq <| qX <| vx <| sr <| lS R R sh42 R R <| mv R R ?_
           obtain ⟨t204, ht204, h⟩ := vw h
           refine p2 R 110 R 111 R (vy (f := 64) (A := bA t204) (xs := [.tmp 110, .tmp 111]) («as» := [AggA [SlcA kInt a1.fGraph.fNodes, SlcA kEdge a1.fGraph.fEdges, SlcA kSlot a1.fSlots, iA a1.fVars, SlcA kTest a1.fTests], iA x13]) R ca64 (ref21_occurs.con k a1 x13 t204 ht204) R) <| p1 R 112 R (q_not R) <| qx <| qw (env' := [(113, _), (13, _), (3, _)]) (.o2 R (.one R (.nil _))) <| qq ?_
           refine qZ h R (fun hb205 h => ?_) (fun hb205 h => ?_)
           ·refine sr <| ak R <| nt <| vq <| vz <| qQ <| qQ <| vz <| qQ ?_
            cases h
            exact vW R R (.t R) (.id _)
           ·refine qB <| vZ <| qq <| qJ <| mv R R ?_
            obtain ⟨c206, h⟩ := qK h
            refine pk R 108 R (vK R c206) <| av R R <| qx ?_
            exact next1 () (x13 + 1) _ h (.o2 R (.nil _))
          ·refine W.exit <| qV <| qV <| vB <| qq <| sr <| ak R <| nt <| vq ?_
           cases h
           exact vW R R (.t R) (.id _)
      ·refine qJ <| fd R R fo42_1 R <| ld R R sh39 <| p1 R 42 R (vN R elS39) <| pk R 43 R (qN R R) <| mv R R ?_
       rcases bif_s h with ⟨hb207, h⟩ | ⟨hb207, h⟩
       ·refine sk R R R hb207 <| sk R R R hb207 <| sk R R R hb207 <| sk R R R hb207 <| pk R 45 R (vQ R hb207) <| qx ?_
        exact qw (.o2 R (.one R (.nil _))) (Kj112 () true h)
       ·refine wf R R R hb207 R R fo42_3 R <| wl R R R hb207 R R sh40 <| wq R R R hb207 (.s 47 R .nil) (vN R elS40).o <| wq R R R hb207 (.s 48 R (.k .nil)) (qN R R).o <| p2 R 45 R 49 R (vj R hb207) <| qx ?_
        exact qw (.o2 R (.one R (.nil _))) (Kj112 () (decide ((a1.fTests.length : Int) > 10)) h)
    ·refine qJ <| fd R R fo42_2 R <| ld R R sh3 <| pk R 34 R (qN R R) <| mv R R ?_
     rcases bif_s h with ⟨hb208, h⟩ | ⟨hb208, h⟩
     ·refine sk R R R hb208 <| sk R R R hb208 <| sk R R R hb208 <| pk R 36 R (vQ R hb208) <| qx ?_
      exact qw (.o2 R (.one R (.nil _))) (Kj108 () true h)
     ·refine wf R R R hb208 R R fo42_2 R <| wl R R R hb208 R R sh3 <| wq R R R hb208 (.s 38 R (.k .nil)) (qN R R).o <| p2 R 36 R 39 R (vj R hb208) <| qx ?_
      exact qw (.o2 R (.one R (.nil _))) (Kj108 () (decide (a1.fVars > 12)) h)
theorem ref21_System.con (k : Nat) (a0 : Types) (a1 : Pattern) (r : (List Test)) (h : ref21_System k a0 a1 = some r) : Con Tryz.prog 48 [] [AggA [SlcA kNodeType a0.fNodes, SlcA kEdgeType a0.fEdges], AggA [SlcA kInt a1.fGraph.fNodes, SlcA kEdge a1.fGraph.fEdges, SlcA kSlot a1.fSlots, iA a1.fVars, SlcA kTest a1.fTests]] (RA (SlcA kTest r)) := by
 unfold ref21_System at h
 refine vJ (N := 91) Tryz.func48 R R R fun w0_ fg_ => sr <| p1 R 0 R (q_box R (qy _)) <| p1 R 1 R (q_box R (qy _)) <| ak R <| nx <| WL.p R R R .nil (q_lit0 R el40 gr86) <| fd R R fo42_3 R <| ld R R sh40 ?_
 obtain ⟨c100, h⟩ := qK h
 refine WL.w [] R (qj R) R R (.s 11 R (.s 13 R .nil)) (w_appendZ (kd := kTest) R el40 R gr86 c100) ?_
 rintro _ _ ⟨v101, rfl, rfl⟩
 refine av R R <| qx <| qw (env' := [(5, _), (3, _), (2, _)]) (.o2 R (.one R (.nil _))) <| qq <| qX <| sr <| ak R <| nt <| vx ?_
 refine W.loop2 (Γ := Value) (fun (g0 : Value) (_ : (List Test)) (x6 : Int) => [(2, PtrA [SlcA kNodeType a0.fNodes, SlcA kEdgeType a0.fEdges]), (3, PtrA [SlcA kInt a1.fGraph.fNodes, SlcA kEdge a1.fGraph.fEdges, SlcA kSlot a1.fSlots, iA a1.fVars, SlcA kTest a1.fTests]), (5, HdA g0), (6, iA x6)]) (fun (g0 : Value) (x5 : (List Test)) (_ : Int) => [SlE 86 g0 kTest x5]) h v101 (.o4 R (.nil _)) R (fun rec0 K0 next0 g0 x5 x6 h => ?_)
 unfold ref21_System.b0 at h
 refine qX <| sr <| mv R R <| fd R R fo42_1 R <| ld R R sh39 <| p1 R 17 R (vN R elS39) <| p2 R 15 R 18 R (qN R R) <| nt ?_
 refine qZ h R (fun hb410 h => ?_) (fun hb410 h => ?_)
 ·refine qB <| qq <| qX <| vx <| sr <| fd R R fo42_1 R <| ld R R sh39 <| mv R R ?_
  obtain ⟨c411, h⟩ := qK h
  refine p2 R 23 R 24 R (vX R el39 R c411.1 c411.2) <| lS R R sh113 R R <| WL.w [] R (qj R) R R .nil (w_alloc R z113 (l := [iA 0, iA 0, iA 0, iA 0]) R) ?_
  rintro _ _ ⟨b412, rfl, rfl⟩
  refine WL.w0 [0] R (qj R) R (.s 7 R (.s 26 R .nil)) (w_store (L := [iA ((rd a1.fSlots x6).fNode), iA ((rd a1.fSlots x6).fAttr), iA ((rd a1.fSlots x6).fTerm.fVar), iA ((rd a1.fSlots x6).fTerm.fAdd)]) R sh113 (qy _) R R (leB R) R) ?_
  rintro _ _ ⟨rfl, rfl⟩
  refine qx <| QN.to (StTo.still [0] 7 R R) <| qw (env' := [(7, _), (6, _), (5, _), (3, _), (2, _)]) (.o4 R (.one R (.nil _))) <| qq <| sr <| lS R R sh35 R R <| lS R R sh42 R R <| fd R R fo113_0 R <| ld R R sh3 <| fd R R fo113_1 R <| ld R R sh3 ?_
  obtain ⟨t413, ht413, h⟩ := vw h
  refine WL.p R R R (.s 28 R (.s 29 R (.s 31 R (.s 33 R .nil)))) (vy (f := 61) (A := TupA [AggA [EqA (strV t413.1.fName), iA t413.1.fLow, iA t413.1.fHigh, SlcA kStr t413.1.fNames], bA t413.2]) (xs := [.tmp 28, .tmp 29, .tmp 31, .tmp 33]) («as» := [AggA [SlcA kNodeType a0.fNodes, SlcA kEdgeType a0.fEdges], AggA [SlcA kInt a1.fGraph.fNodes, SlcA kEdge a1.fGraph.fEdges, SlcA kSlot a1.fSlots, iA a1.fVars, SlcA kTest a1.fTests], iA ((rd a1.fSlots x6).fNode), iA ((rd a1.fSlots x6).fAttr)]) R ca61 (ref21_attr.con k a0 a1 ((rd a1.fSlots x6).fNode) ((rd a1.fSlots x6).fAttr) t413 ht413) R) <| mv R R <| p1 R 27 R (vV R R) <| p1 R 27 R (vV R R) <| WL.w [] R (qj R) R R .nil (w_alloc R z95 (l := [EqA (strV ([] : Str)), iA 0, iA 0, EqA (.slice none 0 0)]) R) ?_
  rintro _ _ ⟨b414, rfl, rfl⟩
  refine WL.w0 [0] R (qj R) R (.s 8 R (.s 35 R .nil)) (w_store (L := [EqA (strV t413.1.fName), iA t413.1.fLow, iA t413.1.fHigh, SlcA kStr t413.1.fNames]) R sh95 (qy _) R R (leB R) R) ?_
  rintro _ _ ⟨rfl, rfl⟩
  refine av R R <| qx <| QN.to (StTo.still [0] 8 R R) <| qw (env' := [(8, _), (7, _), (6, _), (5, _), (3, _), (2, _)]) (.o4 R (.o2 R (.nil _))) <| qq <| sr <| mv R R <| fd R R fo95_1 R <| ld R R sh3 <| WL.p R R R (.k (.s 39 R .nil)) (q_build (is := [0, 1]) (xs := [.const (.int .i64 (-1)), .tmp 39]) (L := [iA (-1), iA t413.1.fLow]) R R z23 pl23 R R (.cons (qW R) (.cons (qW R) .nil)) R) <| fd R R fo113_2 R <| lS R R sh23 R R ?_
  refine WL.p R R R (.k (.s 40 R (.s 42 R .nil))) (q_build (is := [0, 1, 2]) (xs := [.const (.int .i64 1), .tmp 40, .tmp 42]) (L := [iA 1, iA (-1), iA t413.1.fLow, iA ((rd a1.fSlots x6).fTerm.fVar), iA ((rd a1.fSlots x6).fTerm.fAdd)]) R R z86 pl86 R R (.cons (qW R) (.cons (qy _) (.cons (qy _) .nil))) R) <| fd R R fo113_2 R <| lS R R sh23 R R <| fd R R fo95_2 R <| ld R R sh3 <| WL.p R R R (.k (.s 47 R .nil)) (q_build (is := [0, 1]) (xs := [.const (.int .i64 (-1)), .tmp 47]) (L := [iA (-1), iA t413.1.fHigh]) R R z23 pl23 R R (.cons (qW R) (.cons (qW R) .nil)) R) <| WL.p R R R (.k (.s 45 R (.s 48 R .nil))) (q_build (is := [0, 1, 2]) (xs := [.const (.int .i64 1), .tmp 45, .tmp 48]) (L := [iA 1, iA ((rd a1.fSlots x6).fTerm.fVar), iA ((rd a1.fSlots x6).fTerm.fAdd), iA (-1), iA t413.1.fHigh]) R R z86 pl86 R R (.cons (qW R) (.cons (qy _) (.cons (qy _) .nil))) R) <| p2 R 43 R 49 R (q_lit (kd := kTest) (ps := [(0, .tmp 43), (1, .tmp 49)]) (xs := [.tmp 43, .tmp 49]) («as» := [AggA [iA 1, iA (-1), iA t413.1.fLow, iA ((rd a1.fSlots x6).fTerm.fVar), iA ((rd a1.fSlots x6).fTerm.fAdd)], AggA [iA 1, iA ((rd a1.fSlots x6).fTerm.fVar), iA ((rd a1.fSlots x6).fTerm.fAdd), iA (-1), iA t413.1.fHigh]]) (ys := [(Test.mk 1 (Term.mk (-1) t413.1.fLow) ((rd a1.fSlots x6).fTerm)), (Test.mk 1 ((rd a1.fSlots x6).fTerm) (Term.mk (-1) t413.1.fHigh))]) R R el40 R gr86 R R R (.cons (qy _) (.cons (qy _) .nil))) ?_
  obtain ⟨c415, h⟩ := qK h
  refine WL.w [0] R (qj R) R R (.s 37 R (.s 50 R .nil)) (w_append (kd := kTest) R el40 R gr86 c415) ?_
  rintro _ _ ⟨v416, rfl, rfl⟩
  refine av R R <| qx <| qw (env' := [(5, _), (7, _), (6, _), (3, _), (2, _)]) (.o4 R (.one R (.nil _))) <| qq <| sr <| mv R R ?_
  obtain ⟨c417, h⟩ := qK h
  refine pk R 52 R (q_subR R c417) <| av R R <| nt <| vx ?_
  refine W.loop1 (Γ := Unit) (fun (_ : Unit) (x10 : Int) => [(2, PtrA [SlcA kNodeType a0.fNodes, SlcA kEdgeType a0.fEdges]), (3, PtrA [SlcA kInt a1.fGraph.fNodes, SlcA kEdge a1.fGraph.fEdges, SlcA kSlot a1.fSlots, iA a1.fVars, SlcA kTest a1.fTests]), (6, iA x6), (7, PtrA [iA ((rd a1.fSlots x6).fNode), iA ((rd a1.fSlots x6).fAttr), iA ((rd a1.fSlots x6).fTerm.fVar), iA ((rd a1.fSlots x6).fTerm.fAdd)]), (5, HdA v416), (10, iA x10)]) (fun (_ : Unit) (_ : Int) => [SlE 86 v416 kTest (x5 ++ [(Test.mk 1 (Term.mk (-1) t413.1.fLow) ((rd a1.fSlots x6).fTerm)), (Test.mk 1 ((rd a1.fSlots x6).fTerm) (Term.mk (-1) t413.1.fHigh))])]) h () (.o4 R (.o2 R (.nil _))) R (fun rec1 K1 next1 _ x10 h => ?_)
  unfold ref21_System.b1 at h
  refine qX <| sr <| mv R R <| pk R 54 R (qN R R) <| nt ?_
  refine qZ h R (fun hb537 h => ?_) (fun hb537 h => ?_)
  ·refine qB <| qq <| qX <| vx <| qX ?_
   refine W.jn1 (Γ := Unit) (fun (_ : Unit) (x77 : Bool) => [(2, PtrA [SlcA kNodeType a0.fNodes, SlcA kEdgeType a0.fEdges]), (3, PtrA [SlcA kInt a1.fGraph.fNodes, SlcA kEdge a1.fGraph.fEdges, SlcA kSlot a1.fSlots, iA a1.fVars, SlcA kTest a1.fTests]), (6, iA x6), (7, PtrA [iA ((rd a1.fSlots x6).fNode), iA ((rd a1.fSlots x6).fAttr), iA ((rd a1.fSlots x6).fTerm.fVar), iA ((rd a1.fSlots x6).fTerm.fAdd)]), (5, HdA v416), (10, iA x10), (77, bA x77)]) (fun (_ : Unit) (_ : Bool) => [SlE 86 v416 kTest (x5 ++ [(Test.mk 1 (Term.mk (-1) t413.1.fLow) ((rd a1.fSlots x6).fTerm)), (Test.mk 1 ((rd a1.fSlots x6).fTerm) (Term.mk (-1) t413.1.fHigh))])]) h (fun _ x77 h => ?_) (fun j545 Kj545 h => ?_)
   ·refine qq ?_
    refine qZ h R (fun hb546 h => ?_) (fun hb546 h => ?_)
    ·refine qX <| W.drawK [(0, false), (1, false), (2, false), (3, false), (4, false), (5, false), (6, false), (7, false), (8, false), (9, false), (10, false)] [11, 12] (bm [0, 0, 2, 0, 14, 30, 62, 0, 128, 510, 1022, 2047, 4095]) mx (by kernel_rfl) <| dm R R R <| df R R R fo42_1 R <| dl R R R sh39 <| dm R R R ?_
     obtain ⟨c553, h⟩ := qK h
     refine qz R R (.p R (.s 80 R (.s 81 R .nil)) R (vX R el39 R c553.1 c553.2)) <| df R R R fo113_2 R <| qz R R (.p R (.s 83 R .nil) R (q_loadS R sh23 (leB R) R)) <| df R R R fo113_2 R <| qz R R (.p R (.s 85 R .nil) R (q_loadS R sh23 (leB R) R)) <| qz R R (.p R (.k (.s 84 R (.s 86 R .nil))) R (q_build (is := [0, 1, 2]) (xs := [.const (.int .i64 2), .tmp 84, .tmp 86]) (L := [iA 2, iA ((rd a1.fSlots x10).fTerm.fVar), iA ((rd a1.fSlots x10).fTerm.fAdd), iA ((rd a1.fSlots x6).fTerm.fVar), iA ((rd a1.fSlots x6).fTerm.fAdd)]) R R z86 pl86 R R (.cons (qW R) (.cons (qy _) (.cons (qy _) .nil))) R)) <| qz R R (.p R (.s 87 R .nil) R (q_lit (kd := kTest) (ps := [(0, .tmp 87)]) (xs := [.tmp 87]) («as» := [AggA [iA 2, iA ((rd a1.fSlots x10).fTerm.fVar), iA ((rd a1.fSlots x10).fTerm.fAdd), iA ((rd a1.fSlots x6).fTerm.fVar), iA ((rd a1.fSlots x6).fTerm.fAdd)]]) (ys := [(Test.mk 2 ((rd a1.fSlots x10).fTerm) ((rd a1.fSlots x6).fTerm))]) R R el40 R gr86 R R R (.cons (qy _) .nil))) ?_
     obtain ⟨c554, h⟩ := qK h
     refine DK.nil <| CSteps.w [0] R R R R (.s 78 R (.s 88 R .nil)) R (w_append (kd := kTest) R el40 R gr86 c554) ?_
     rintro _ _ ⟨v555, rfl, rfl⟩
     refine CSteps.p R R R (.s 89 R .nil) R (q_assign R) <| CSteps.nil <| qw (env' := [(5, _), (6, _), (3, _), (2, _)]) (.o4 R (.nil _)) <| qq <| W.exit <| QX.there R <| qV <| qV <| vB <| vZ <| qq <| qJ <| mv R R ?_
     obtain ⟨c556, h⟩ := qK h
     refine pk R 20 R (vK R c556) <| av R R <| qx ?_
     exact next0 v555 ((x5 ++ [(Test.mk 1 (Term.mk (-1) t413.1.fLow) ((rd a1.fSlots x6).fTerm)), (Test.mk 1 ((rd a1.fSlots x6).fTerm) (Term.mk (-1) t413.1.fHigh))]) ++ [(Test.mk 2 ((rd a1.fSlots x10).fTerm) ((rd a1.fSlots x6).fTerm))]) (x6 + 1) _ h (.o4 R (.nil _))
    ·refine qB <| vZ <| qq <| qJ <| mv R R ?_
     obtain ⟨c557, h⟩ := qK h
     refine pk R 56 R (q_subR R c557) <| av R R <| qx ?_
     exact next1 () (x10 - 1) _ h (.o4 R (.o2 R (.nil _)))
   ·refine W.drawK [(0, false), (1, false), (2, false), (3, false), (4, false), (5, false), (6, false), (7, false), (8, false), (9, false), (10, false), (11, false), (12, false), (13, false), (14, false), (15, false), (16, false), (17, false), (18, false), (19, false)] [] (bm [0, 1, 0, 7, 15, 31, 0, 64, 255, 511, 1023, 2047, 1023, 8191, 16383, 32767, 1023, 66559, 262143, 524287]) mx (by kernel_rfl) <| df R R R fo42_1 R <| dl R R R sh39 <| dm R R R ?_
    obtain ⟨c558, h⟩ := qK h
    refine qz R R (.p R (.s 59 R (.s 60 R .nil)) R (vX R el39 R c558.1 c558.2)) <| df R R R fo113_0 R <| dl R R R sh3 <| df R R R fo113_0 R <| dl R R R sh3 <| qz R R (.p R (.s 63 R (.s 65 R .nil)) R (qN R R)) <| dm R R R ?_
    rcases bif_s h with ⟨hb559, h⟩ | ⟨hb559, h⟩
    ·refine qz R R (.gp R R R hb559 (.s 3 R .nil) R (q_field R fo42_1 R)) <| qz R R (.gp R R R hb559 (.s 68 R .nil) R (q_load R sh39)) <| qz R R (.gp R R R hb559 (.s 10 R .nil) R (q_move R)) ?_
     obtain ⟨c560, h⟩ := qK h
     refine qz R R (.gp R R R hb559 (.s 69 R (.s 70 R .nil)) R (vX R el39 R c560.1 c560.2)) <| qz R R (.gp R R R hb559 (.s 71 R .nil) R (q_field R fo113_1 R)) <| qz R R (.gp R R R hb559 (.s 72 R .nil) R (q_load R sh3)) <| qz R R (.gp R R R hb559 (.s 7 R .nil) R (q_field R fo113_1 R)) <| qz R R (.gp R R R hb559 (.s 74 R .nil) R (q_load R sh3)) <| qz R R (.gp R R R hb559 (.s 73 R (.s 75 R .nil)) R (qN R R)) <| qz R R (.p R (.s 67 R (.s 76 R .nil)) R (vQ R hb559)) <| DK.nil <| CSteps.nil ?_
     exact qw (.o4 R (.o2 R (.one R (.nil _)))) (Kj545 () ((rd a1.fSlots x10).fAttr == (rd a1.fSlots x6).fAttr) h)
    ·refine dx R R R hb559 <| dx R R R hb559 <| dx R R R hb559 <| dx R R R hb559 <| dx R R R hb559 <| dx R R R hb559 <| dx R R R hb559 <| dx R R R hb559 <| dx R R R hb559 <| qz R R (.p R (.s 67 R (.k .nil)) R (vj R hb559)) <| DK.nil <| CSteps.nil ?_
     exact qw (.o4 R (.o2 R (.one R (.nil _)))) (Kj545 () false h)
  ·refine W.exit <| qV <| qV <| vB <| vZ <| qq <| qJ <| mv R R ?_
   obtain ⟨c561, h⟩ := qK h
   refine pk R 20 R (vK R c561) <| av R R <| qx ?_
   exact next0 v416 (x5 ++ [(Test.mk 1 (Term.mk (-1) t413.1.fLow) ((rd a1.fSlots x6).fTerm)), (Test.mk 1 ((rd a1.fSlots x6).fTerm) (Term.mk (-1) t413.1.fHigh))]) (x6 + 1) _ h (.o4 R (.nil _))
 ·refine W.exit <| qV <| qV <| vB <| qw (env' := [(5, _)]) (.one R (.nil _)) <| qq <| sr <| mv R R <| av R R <| nt <| vq ?_
  cases h
  exact vW R R (.t R) (.slc 0 R)
theorem ref03_arcs.con (k : Nat) (a0 : (List Test)) (r : (List Arc3)) (h : ref03_arcs k a0 = some r) : Con Tryz.prog 98 [] [SlcA kTest a0] (RA (SlcA kArc3 r)) := by
 unfold ref03_arcs at h
 refine vJ (N := 67) Tryz.func98 R R R fun w0_ fg_ => sr <| ak R <| nx <| ak R <| nt <| qX <| qX ?_
 refine qJ <| ak R <| nt <| vx <| W.to (StTo.newNil 166 kArc3) <| W.to (StTo.as 3 R Imp.nilHd) ?_
 refine W.loop2 (Γ := Value) (fun (g0 : Value) (_ : (List Arc3)) (x4 : Int) => [(0, SlcA kTest a0), (3, HdA g0), (4, iA x4)]) (fun (g0 : Value) (x3 : (List Arc3)) (_ : Int) => [SlE 166 g0 kArc3 x3]) h (.slice none 0 0) (.o2 R (.one R (.nil _))) R (fun rec0 K0 next0 g0 x3 x4 h => ?_)
 unfold ref03_arcs.b0 at h
 refine qX <| sr <| mv R R <| mv R R <| p1 R 9 R (vN R elS40) <| p2 R 8 R 10 R (qN R R) <| nt ?_
 refine qZ h R (fun hb177 h => ?_) (fun hb177 h => ?_)
 ·refine qB <| qq <| qX <| vx <| qX <| W.drawK [(0, false), (1, false), (2, false), (3, false), (4, false), (5, false), (6, false), (7, false), (8, false), (9, false), (10, false), (11, false), (12, false), (13, false), (14, false), (15, false), (16, false), (17, false), (18, false), (19, false), (20, false), (21, false), (22, false), (23, false), (24, false), (25, false), (26, false), (27, false), (28, false), (29, false)] [] (bm [0, 0, 3, 7, 15, 31, 63, 0, 0, 384, 896, 1920, 3968, 8064, 0, 0, 49152, 114688, 245760, 507904, 0, 0, 3145728, 7340032, 15728640, 32505856, 67092480, 127, 134234111, 536870911]) mx (by kernel_rfl) <| dm R R R <| dm R R R ?_
  obtain ⟨c192, h⟩ := qK h
  refine qz R R (.p R (.s 14 R (.s 15 R .nil)) R (vX R el40 R c192.1 c192.2)) <| df R R R fo86_1 R <| df R R R fo23_0 R <| dl R R R sh3 ?_
  obtain ⟨c193, h⟩ := qK h
  refine qz R R (.p R (.s 19 R (.k .nil)) R (vK R c193)) <| dm R R R <| dm R R R ?_
  obtain ⟨c194, h⟩ := qK h
  refine qz R R (.p R (.s 21 R (.s 22 R .nil)) R (vX R el40 R c194.1 c194.2)) <| df R R R fo86_2 R <| df R R R fo23_0 R <| dl R R R sh3 ?_
  obtain ⟨c195, h⟩ := qK h
  refine qz R R (.p R (.s 26 R (.k .nil)) R (vK R c195)) <| dm R R R <| dm R R R ?_
  obtain ⟨c196, h⟩ := qK h
  refine qz R R (.p R (.s 28 R (.s 29 R .nil)) R (vX R el40 R c196.1 c196.2)) <| df R R R fo86_2 R <| df R R R fo23_1 R <| dl R R R sh3 <| dm R R R <| dm R R R ?_
  obtain ⟨c197, h⟩ := qK h
  refine qz R R (.p R (.s 34 R (.s 35 R .nil)) R (vX R el40 R c197.1 c197.2)) <| df R R R fo86_1 R <| df R R R fo23_1 R <| dl R R R sh3 ?_
  obtain ⟨c198, h⟩ := qK h
  refine qz R R (.p R (.s 33 R (.s 39 R .nil)) R (q_subR R c198)) <| qz R R (.p R (.s 20 R .nil) R (q_assign R)) <| qz R R (.p R (.s 27 R .nil) R (q_assign R)) <| qz R R (.p R (.s 40 R .nil) R (q_assign R)) <| DK.nil <| CSteps.nil <| qw (env' := [(7, _), (6, _), (5, _), (4, _), (3, _), (0, _)]) (.o4 R (.o2 R (.nil _))) <| qq <| sr <| mv R R <| mv R R <| pk R 42 R (q_build (is := [0, 1]) (xs := [.tmp 42, .const (.int .i64 1)]) (L := [iA x4, iA 1]) R R z52 pl52 R R (.cons (qW R) (.cons (qW R) .nil)) R) ?_
  refine mv R R <| mv R R <| mv R R <| WL.p R R R (.s 43 R (.s 44 R (.s 45 R (.s 46 R .nil)))) (q_build (is := [0, 1, 2, 3]) (xs := [.tmp 43, .tmp 44, .tmp 45, .tmp 46]) (L := [iA x4, iA 1, iA ((rd a0 x4).fLeft.fVar + 1), iA ((rd a0 x4).fRight.fVar + 1), iA ((rd a0 x4).fRight.fAdd - (rd a0 x4).fLeft.fAdd)]) R R z166 pl166 R R (.cons (qy _) (.cons (qW R) (.cons (qW R) (.cons (qW R) .nil)))) R) <| p1 R 47 R (q_lit (kd := kArc3) (ps := [(0, .tmp 47)]) (xs := [.tmp 47]) («as» := [AggA [iA x4, iA 1, iA ((rd a0 x4).fLeft.fVar + 1), iA ((rd a0 x4).fRight.fVar + 1), iA ((rd a0 x4).fRight.fAdd - (rd a0 x4).fLeft.fAdd)]]) (ys := [(Arc3.mk (Use.mk x4 1) ((rd a0 x4).fLeft.fVar + 1) ((rd a0 x4).fRight.fVar + 1) ((rd a0 x4).fRight.fAdd - (rd a0 x4).fLeft.fAdd))]) R R el160 R gr166 R R R (.cons (qy _) .nil)) ?_
  obtain ⟨c199, h⟩ := qK h
  refine WL.w [0] R (qj R) R R (.s 41 R (.s 48 R .nil)) (w_append (kd := kArc3) R el160 R gr166 c199) ?_
  rintro _ _ ⟨v200, rfl, rfl⟩
  refine av R R <| qx <| qw (env' := [(3, _), (7, _), (6, _), (5, _), (4, _), (0, _)]) (.o4 R (.o2 R (.nil _))) <| qq <| sr <| mv R R <| mv R R ?_
  obtain ⟨c201, h⟩ := qK h
  refine p2 R 50 R 51 R (vX R el40 R c201.1 c201.2) <| fd R R fo86_0 R <| ld R R sh3 <| pk R 54 R (qN R R) <| nt ?_
  refine qZ h R (fun hb206 h => ?_) (fun hb206 h => ?_)
  ·refine qJ <| mv R R <| mv R R <| pk R 57 R (q_build (is := [0, 1]) (xs := [.tmp 57, .const (.int .i64 (-1))]) (L := [iA x4, iA (-1)]) R R z52 pl52 R R (.cons (qW R) (.cons (qW R) .nil)) R) <| mv R R <| mv R R <| mv R R ?_
   obtain ⟨c207, h⟩ := qK h
   refine p1 R 61 R (q_negR R c207) <| WL.p R R R (.s 58 R (.s 59 R (.s 60 R (.s 62 R .nil)))) (q_build (is := [0, 1, 2, 3]) (xs := [.tmp 58, .tmp 59, .tmp 60, .tmp 62]) (L := [iA x4, iA (-1), iA ((rd a0 x4).fRight.fVar + 1), iA ((rd a0 x4).fLeft.fVar + 1), iA (0 - ((rd a0 x4).fRight.fAdd - (rd a0 x4).fLeft.fAdd))]) R R z166 pl166 R R (.cons (qy _) (.cons (qW R) (.cons (qW R) (.cons (qW R) .nil)))) R) <| p1 R 63 R (q_lit (kd := kArc3) (ps := [(0, .tmp 63)]) (xs := [.tmp 63]) («as» := [AggA [iA x4, iA (-1), iA ((rd a0 x4).fRight.fVar + 1), iA ((rd a0 x4).fLeft.fVar + 1), iA (0 - ((rd a0 x4).fRight.fAdd - (rd a0 x4).fLeft.fAdd))]]) (ys := [(Arc3.mk (Use.mk x4 (-1)) ((rd a0 x4).fRight.fVar + 1) ((rd a0 x4).fLeft.fVar + 1) (0 - ((rd a0 x4).fRight.fAdd - (rd a0 x4).fLeft.fAdd)))]) R R el160 R gr166 R R R (.cons (qy _) .nil)) ?_
   obtain ⟨c208, h⟩ := qK h
   refine WL.w [0] R (qj R) R R (.s 56 R (.s 64 R .nil)) (w_append (kd := kArc3) R el160 R gr166 c208) ?_
   rintro _ _ ⟨v209, rfl, rfl⟩
   refine av R R <| qx <| vZ <| qw (env' := [(3, _), (4, _), (0, _)]) (.o2 R (.one R (.nil _))) <| qq <| qJ <| mv R R ?_
   obtain ⟨c210, h⟩ := qK h
   refine pk R 12 R (vK R c210) <| av R R <| qx ?_
   exact next0 v209 ((x3 ++ [(Arc3.mk (Use.mk x4 1) ((rd a0 x4).fLeft.fVar + 1) ((rd a0 x4).fRight.fVar + 1) ((rd a0 x4).fRight.fAdd - (rd a0 x4).fLeft.fAdd))]) ++ [(Arc3.mk (Use.mk x4 (-1)) ((rd a0 x4).fRight.fVar + 1) ((rd a0 x4).fLeft.fVar + 1) (0 - ((rd a0 x4).fRight.fAdd - (rd a0 x4).fLeft.fAdd)))]) (x4 + 1) _ h (.o2 R (.one R (.nil _)))
  ·refine qB <| vZ <| qw (env' := [(3, _), (4, _), (0, _)]) (.o2 R (.one R (.nil _))) <| qq <| qJ <| mv R R ?_
   obtain ⟨c211, h⟩ := qK h
   refine pk R 12 R (vK R c211) <| av R R <| qx ?_
   exact next0 v200 (x3 ++ [(Arc3.mk (Use.mk x4 1) ((rd a0 x4).fLeft.fVar + 1) ((rd a0 x4).fRight.fVar + 1) ((rd a0 x4).fRight.fAdd - (rd a0 x4).fLeft.fAdd))]) (x4 + 1) _ h (.o2 R (.one R (.nil _)))
 ·refine W.exit <| qV <| qV <| vB <| qq <| sr <| mv R R <| av R R <| qx <| qw (env' := [(2, _)]) (.one R (.nil _)) <| qq <| vq ?_
  cases h
  exact vW R R (.t R) (.slc 0 R)
end Go.Proofs.YtcgdfjpeboiioaaGreat
