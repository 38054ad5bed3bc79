import Derived.Test.YtcgdfjpeboiioaaGreatGdC6
namespace Go.Proofs.YtcgdfjpeboiioaaGreat
open Go Go.Abs
attribute [local irreducible] Tryz.prog
theorem ref21_SameMatches.con (k : Nat) (a0 : (List Match)) (a1 : (List Match)) (r : Bool) (h : ref21_SameMatches k a0 a1 = some r) : Con Tryz.prog 31 [] [SlcA kMatch a0, SlcA kMatch a1] (RA (bA r)) := by
 unfold ref21_SameMatches at h
 refine vZ (N := 27) Tryz.func31 R R R fun w0_ fg_ => sr <| ak R <| nt <| qX <| sr <| mv R R <| p1 R 6 R (vN R elS71) <| mv R R <| p1 R 8 R (vN R elS71) ?_
 refine p2 R 7 R 9 R (qB R R) <| nt ?_
 refine qZ h R (fun hb100 h => ?_) (fun hb100 h => ?_)
 ·refine sr <| ak R <| qx <| qw (env' := [(4, _)]) (.one R (.nil _)) <| qq <| qN <| qy ?_
  cases h
  exact vW R R (.t R) (.id _)
 ·refine qK <| qq <| qX <| sr <| ak R <| nt <| vj ?_
  refine W.loop1 (Γ := Unit) (fun (_ : Unit) (x5 : Int) => [(0, SlcA kMatch a0), (1, SlcA kMatch a1), (5, iA x5)]) (fun (_ : Unit) (_ : Int) => []) h () (.o2 R (.one R (.nil _))) R (fun rec0 K0 next0 _ x5 h => ?_)
  unfold ref21_SameMatches.b0 at h
  refine qX <| sr <| mv R R <| mv R R <| p1 R 12 R (vN R elS71) <| p2 R 11 R 13 R (qB R R) <| nt ?_
  refine qZ h R (fun hb125 h => ?_) (fun hb125 h => ?_)
  ·refine qK <| qq <| qX <| vj <| qX <| W.drawK [(0, false), (1, false), (2, false), (3, false), (4, false), (5, false), (6, false), (7, false), (8, false), (9, false)] [] (bm [0, 0, 3, 7, 0, 0, 48, 112, 255, 511]) mx (by kernel_rfl) <| dm R R R <| dm R R R ?_
   obtain ⟨c132, h⟩ := qV h
   refine qQ R R (.p R (.s 17 R (.s 18 R .nil)) R (vX R el71 R c132.1 c132.2)) <| qQ R R (.p R (.s 19 R .nil) R (q_loadS R sh76 (leB R) R)) <| dm R R R <| dm R R R ?_
   obtain ⟨c133, h⟩ := qV h
   refine qQ R R (.p R (.s 21 R (.s 22 R .nil)) R (vX R el71 R c133.1 c133.2)) <| qQ R R (.p R (.s 23 R .nil) R (q_loadS R sh76 (leB R) R)) ?_
   obtain ⟨t134, ht134, h⟩ := vw h
   refine qQ R R (.p R (.s 20 R (.s 24 R .nil)) R (vQ (f := 80) (A := bA t134) (xs := [.tmp 20, .tmp 24]) («as» := [AggA [SlcA kInt ((rd a0 x5).fMorphism.fNodes), SlcA kInt ((rd a0 x5).fMorphism.fEdges), SlcA kInt ((rd a0 x5).fVars)], AggA [SlcA kInt ((rd a1 x5).fMorphism.fNodes), SlcA kInt ((rd a1 x5).fMorphism.fEdges), SlcA kInt ((rd a1 x5).fVars)]]) R ca80 (ref21_SameMatch.con k (rd a0 x5) (rd a1 x5) t134 ht134) R)) <| qQ R R (.p R (.s 25 R .nil) R (q_not R)) <| DK.nil <| CSteps.nil <| qw (env' := [(26, _), (5, _), (1, _), (0, _)]) (.o4 R (.nil _)) <| qq ?_
   refine qZ h R (fun hb135 h => ?_) (fun hb135 h => ?_)
   ·refine sr <| ak R <| nt <| qN <| vx <| qy <| qy <| vx <| qy ?_
    cases h
    exact vW R R (.t R) (.id _)
   ·refine qK <| vJ <| qq <| qJ <| mv R R ?_
    obtain ⟨c136, h⟩ := qV h
    refine pk R 15 R (vV R c136) <| av R R <| qx ?_
    exact next0 () (x5 + 1) _ h (.o2 R (.one R (.nil _)))
  ·refine W.exit <| vq <| vq <| vB <| qw (env' := []) (.nil _) <| qq <| sr <| ak R <| nt <| qN ?_
   cases h
   exact vW R R (.t R) (.id _)
theorem law21_awake.con (k : Nat) (r : Bool) (h : law21_awake k = some r) : Con Tryz.prog 9 [] [] (RA (bA r)) := by
 unfold law21_awake at h
 refine vZ (N := 44) Tryz.func9 R R R fun w0_ fg_ => sr <| ak R <| nx ?_
 obtain ⟨t100, ht100, h⟩ := vw h
 refine WL.p R R R .nil (vQ (f := 37) (A := AggA [SlcA kNodeType t100.fNodes, SlcA kEdgeType t100.fEdges]) (xs := []) («as» := []) R ca37 (ref04_Example.con k  t100 ht100) R) <| WL.p R R R (.k .nil) (q_build (is := [0]) (xs := [.const (.int .i64 0)]) (L := [iA 0, iA 0]) R R z23 pl23 R R (.cons (qW R) .nil) R) <| WL.p R R R (.k (.k .nil)) (q_build (is := [0, 1]) (xs := [.const (.int .i64 1), .const (.int .i64 4)]) (L := [iA 1, iA 4]) R R z23 pl23 R R (.cons (qW R) (.cons (qW R) .nil)) R) <| WL.p R R R (.k (.s 7 R (.s 8 R .nil))) (q_build (is := [0, 1, 2]) (xs := [.const (.int .i64 1), .tmp 7, .tmp 8]) (L := [iA 1, iA 0, iA 0, iA 1, iA 4]) R R z86 pl86 R R (.cons (qW R) (.cons (qz _) (.cons (qz _) .nil))) R) ?_
 obtain ⟨t101, ht101, h⟩ := vw h
 refine p1 R 9 R (vQ (f := 38) (A := AggA [SlcA kInt t101.fGraph.fNodes, SlcA kEdge t101.fGraph.fEdges, SlcA kSlot t101.fSlots, iA t101.fVars, SlcA kTest t101.fTests]) (xs := [.tmp 9]) («as» := [AggA [iA 1, iA 0, iA 0, iA 1, iA 4]]) R ca38 (law21_two.con k (Test.mk 1 (Term.mk 0 0) (Term.mk 1 4)) t101 ht101) R) ?_
 obtain ⟨t102, ht102, h⟩ := vw h
 refine WL.p R R R .nil (vQ (f := 39) (A := AggA [SlcA kInt t102.fGraph.fNodes, SlcA kEdge t102.fGraph.fEdges, SlcA (kSl kInt) t102.fValues]) (xs := []) («as» := []) R ca39 (law21_bank.con k  t102 ht102) R) ?_
 obtain ⟨t103, ht103, h⟩ := vw h
 refine WL.p R R R (.s 6 R (.s 10 R (.s 11 R (.k .nil)))) (vQ (f := 29) (A := TupA [SlcA kMatch t103.1, iA t103.2]) (xs := [.tmp 6, .tmp 10, .tmp 11, .const (.bool true)]) («as» := [AggA [SlcA kNodeType t100.fNodes, SlcA kEdgeType t100.fEdges], AggA [SlcA kInt t101.fGraph.fNodes, SlcA kEdge t101.fGraph.fEdges, SlcA kSlot t101.fSlots, iA t101.fVars, SlcA kTest t101.fTests], AggA [SlcA kInt t102.fGraph.fNodes, SlcA kEdge t102.fGraph.fEdges, SlcA (kSl kInt) t102.fValues], bA true]) R ca29 (attribute_Matches.con k t100 t101 t102 true t103 ht103) R) <| mv R R <| p1 R 5 R (vK R R) <| p1 R 5 R (vK R R) <| av R R <| av R R <| qx <| qw (env' := [(2, _), (1, _)]) (.o2 R (.nil _)) <| qq <| sr ?_
 obtain ⟨t104, ht104, h⟩ := vw h
 refine WL.p R R R .nil (vQ (f := 37) (A := AggA [SlcA kNodeType t104.fNodes, SlcA kEdgeType t104.fEdges]) (xs := []) («as» := []) R ca37 (ref04_Example.con k  t104 ht104) R) <| WL.p R R R (.k (.k .nil)) (q_build (is := [0, 1]) (xs := [.const (.int .i64 (-1)), .const (.int .i64 2000)]) (L := [iA (-1), iA 2000]) R R z23 pl23 R R (.cons (qW R) (.cons (qW R) .nil)) R) <| WL.p R R R (.k .nil) (q_build (is := [0]) (xs := [.const (.int .i64 0)]) (L := [iA 0, iA 0]) R R z23 pl23 R R (.cons (qW R) .nil) R) <| WL.p R R R (.k (.s 17 R (.s 18 R .nil))) (q_build (is := [0, 1, 2]) (xs := [.const (.int .i64 1), .tmp 17, .tmp 18]) (L := [iA 1, iA (-1), iA 2000, iA 0, iA 0]) R R z86 pl86 R R (.cons (qW R) (.cons (qz _) (.cons (qz _) .nil))) R) ?_
 obtain ⟨t105, ht105, h⟩ := vw h
 refine p1 R 19 R (vQ (f := 38) (A := AggA [SlcA kInt t105.fGraph.fNodes, SlcA kEdge t105.fGraph.fEdges, SlcA kSlot t105.fSlots, iA t105.fVars, SlcA kTest t105.fTests]) (xs := [.tmp 19]) («as» := [AggA [iA 1, iA (-1), iA 2000, iA 0, iA 0]]) R ca38 (law21_two.con k (Test.mk 1 (Term.mk (-1) 2000) (Term.mk 0 0)) t105 ht105) R) ?_
 obtain ⟨t106, ht106, h⟩ := vw h
 refine p2 R 16 R 20 R (vQ (f := 15) (A := TupA [SlcA kUse t106.1, iA t106.2]) (xs := [.tmp 16, .tmp 20]) («as» := [AggA [SlcA kNodeType t104.fNodes, SlcA kEdgeType t104.fEdges], AggA [SlcA kInt t105.fGraph.fNodes, SlcA kEdge t105.fGraph.fEdges, SlcA kSlot t105.fSlots, iA t105.fVars, SlcA kTest t105.fTests]]) R ca15 (attribute_Contradiction.con k t104 t105 t106 ht106) R) <| mv R R <| p1 R 15 R (vK R R) <| p1 R 15 R (vK R R) <| av R R <| av R R <| qx <| qw (env' := [(4, _), (3, _), (2, _), (1, _)]) (.o4 R (.nil _)) <| qq <| qX ?_
 refine W.jn1 (Γ := Unit) (fun (_ : Unit) (x0 : Bool) => [(0, bA x0)]) (fun (_ : Unit) (_ : Bool) => []) h (fun _ x0 h => ?_) (fun j112 Kj112 h => ?_)
 ·refine qq <| qN ?_
  cases h
  exact vW R R (.t R) (.id _)
 ·refine qJ <| mv R R <| pk R 24 R (qB R R) <| mv R R ?_
  rcases bif_s h with ⟨hb113, h⟩ | ⟨hb113, h⟩
  ·refine wm R R R hb113 R R <| wq R R R hb113 (.k (.k .nil)) (q_lit (kd := kInt) (ps := [(0, .const (.int .i64 2)), (1, .const (.int .i64 1))]) (xs := [.const (.int .i64 2), .const (.int .i64 1)]) («as» := [iA 2, iA 1]) (ys := [2, 1]) R R el26 R gr3 R R R (.cons (qW R) (.cons (qW R) .nil))).o <| wq R R R hb113 (.s 28 R .nil) (q_build (is := [0]) (xs := [.tmp 28]) (L := [SlcA kInt [2, 1], EqA (.slice none 0 0)]) R R z64 pl64 R R (.cons (qW R) .nil) R).o <| wq R R R hb113 (.k (.k .nil)) (q_lit (kd := kInt) (ps := [(0, .const (.int .i64 5)), (1, .const (.int .i64 10))]) (xs := [.const (.int .i64 5), .const (.int .i64 10)]) («as» := [iA 5, iA 10]) (ys := [5, 10]) R R el26 R gr3 R R R (.cons (qW R) (.cons (qW R) .nil))).o <| wq R R R hb113 (.s 29 R (.s 30 R .nil)) (q_build (is := [0, 1]) (xs := [.tmp 29, .tmp 30]) (L := [SlcA kInt [2, 1], EqA (.slice none 0 0), SlcA kInt [5, 10]]) R R z76 pl76 R R (.cons (qz _) (.cons (qW R) .nil)) R).o <| wq R R R hb113 (.s 31 R .nil) (QS.args (q_lit (kd := kMatch) (ps := [(0, .tmp 31)]) (xs := [.tmp 31]) («as» := [AggA [SlcA kInt [2, 1], SlcA kInt [], SlcA kInt [5, 10]]]) (ys := [(Match.mk (Morphism.mk [2, 1] []) [5, 10])]) R R el71 R gr76 R R R (.cons (qz _) .nil)) (.cons (Imp.agg (.cons (Imp.id _) (.cons (Imp.nil kInt) (.cons (Imp.id _) .nil)))) .nil)).o ?_
   obtain ⟨t114, ht114, h⟩ := vw h
   refine wq R R R hb113 (.s 27 R (.s 32 R .nil)) (vQ (f := 31) (A := bA t114) (xs := [.tmp 27, .tmp 32]) («as» := [SlcA kMatch t103.1, SlcA kMatch ([(Match.mk (Morphism.mk [2, 1] []) [5, 10])])]) R ca31 (ref21_SameMatches.con k t103.1 ([(Match.mk (Morphism.mk [2, 1] []) [5, 10])]) t114 ht114) R).o <| p2 R 26 R 33 R (vy R hb113) <| mv R R ?_
   rcases bif_s h with ⟨hb115, h⟩ | ⟨hb115, h⟩
   ·refine wm R R R hb115 R R <| wq R R R hb115 (.s 36 R (.k .nil)) (qB R R).o <| p2 R 35 R 37 R (vy R hb115) <| mv R R ?_
    rcases bif_s h with ⟨hb116, h⟩ | ⟨hb116, h⟩
    ·refine wm R R R hb116 R R <| wq R R R hb116 (.s 40 R .nil) (vN R elS45).o <| wq R R R hb116 (.s 41 R (.k .nil)) (qB R R).o <| p2 R 39 R 42 R (vy R hb116) <| av R R <| qx ?_
     exact qw (.one R (.nil _)) (Kj112 () ((t106.1.length : Int) == 2) h)
    ·refine sk R R R hb116 <| sk R R R hb116 <| sk R R R hb116 <| pk R 39 R (vz R hb116) <| av R R <| qx ?_
     exact qw (.one R (.nil _)) (Kj112 () false h)
   ·refine sk R R R hb115 <| sk R R R hb115 <| pk R 35 R (vz R hb115) <| mv R R <| sk R R R R <| sk R R R R <| sk R R R R <| pk R 39 R (vz R R) <| av R R <| qx ?_
    exact qw (.one R (.nil _)) (Kj112 () false h)
  ·refine sk R R R hb113 <| sk R R R hb113 <| sk R R R hb113 <| sk R R R hb113 <| sk R R R hb113 <| sk R R R hb113 <| sk R R R hb113 <| pk R 26 R (vz R hb113) <| mv R R <| sk R R R R <| sk R R R R <| pk R 35 R (vz R R) <| mv R R ?_
   refine sk R R R R <| sk R R R R <| sk R R R R <| pk R 39 R (vz R R) <| av R R <| qx ?_
   exact qw (.one R (.nil _)) (Kj112 () false h)
theorem ref04_Few.con (k : Nat) (a0 : Types) (r : Bool) (h : ref04_Few k a0 = some r) : Con Tryz.prog 13 [] [AggA [SlcA kNodeType a0.fNodes, SlcA kEdgeType a0.fEdges]] (RA (bA r)) := by
 unfold ref04_Few at h
 refine vZ (N := 106) Tryz.func13 R R R fun w0_ fg_ => sr <| p1 R 0 R (q_box R (qz _)) <| ak R <| nt <| qX <| qX ?_
 refine W.jn1 (Γ := Unit) (fun (_ : Unit) (x18 : Bool) => [(1, PtrA [SlcA kNodeType a0.fNodes, SlcA kEdgeType a0.fEdges]), (18, bA x18)]) (fun (_ : Unit) (_ : Bool) => []) h (fun _ x18 h => ?_) (fun j102 Kj102 h => ?_)
 ·refine qq ?_
  refine qZ h R (fun hb103 h => ?_) (fun hb103 h => ?_)
  ·refine sr <| ak R <| nt <| qN <| qy ?_
   cases h
   exact vW R R (.t R) (.id _)
  ·refine qK <| qq <| sr <| ak R <| nt <| qX <| sr <| ak R <| nt ?_
   refine vj ?_
   refine W.loop2 (Γ := Unit) (fun (_ : Unit) (x3 : Int) (x4 : Int) => [(1, PtrA [SlcA kNodeType a0.fNodes, SlcA kEdgeType a0.fEdges]), (3, iA x3), (4, iA x4)]) (fun (_ : Unit) (_ : Int) (_ : Int) => []) h () (.o2 R (.one R (.nil _))) R (fun rec0 K0 next0 _ x3 x4 h => ?_)
   unfold ref04_Few.b0 at h
   refine qX <| sr <| mv R R <| fd R R fo35_0 R <| ld R R sh32 <| p1 R 21 R (vN R elS32) <| p2 R 19 R 22 R (qB R R) <| nt ?_
   refine qZ h R (fun hb304 h => ?_) (fun hb304 h => ?_)
   ·refine qK <| qq <| qX <| vj <| sr <| mv R R <| fd R R fo35_0 R <| ld R R sh32 <| mv R R ?_
    obtain ⟨c305, h⟩ := qV h
    refine p2 R 28 R 29 R (vX R el32 R c305.1 c305.2) <| fd R R fo92_3 R <| ld R R sh90 <| p1 R 32 R (vN R elS90) ?_
    obtain ⟨c306, h⟩ := qV h
    refine p2 R 26 R 33 R (vV R c306) <| av R R <| qx <| qw (env' := [(3, _), (4, _), (1, _)]) (.o2 R (.one R (.nil _))) <| qq <| qX <| qX ?_
    refine W.jn1 (Γ := Unit) (fun (_ : Unit) (x46 : Bool) => [(1, PtrA [SlcA kNodeType a0.fNodes, SlcA kEdgeType a0.fEdges]), (4, iA x4), (3, iA (x3 + (((rd a0.fNodes x4).fAttrs).length : Int))), (46, bA x46)]) (fun (_ : Unit) (_ : Bool) => []) h (fun _ x46 h => ?_) (fun j310 Kj310 h => ?_)
    ·refine qq ?_
     refine qZ h R (fun hb311 h => ?_) (fun hb311 h => ?_)
     ·refine sr <| ak R <| nt <| qN <| qy <| vx <| qy <| qy <| vx <| qy ?_
      cases h
      exact vW R R (.t R) (.id _)
     ·refine qK <| qq <| sr <| ak R <| nt <| vj ?_
      refine W.loop1 (Γ := Unit) (fun (_ : Unit) (x5 : Int) => [(1, PtrA [SlcA kNodeType a0.fNodes, SlcA kEdgeType a0.fEdges]), (4, iA x4), (3, iA (x3 + (((rd a0.fNodes x4).fAttrs).length : Int))), (5, iA x5)]) (fun (_ : Unit) (_ : Int) => []) h () (.o4 R (.nil _)) R (fun rec1 K1 next1 _ x5 h => ?_)
      unfold ref04_Few.b1 at h
      refine qX <| sr <| mv R R <| fd R R fo35_0 R <| ld R R sh32 <| mv R R ?_
      obtain ⟨c364, h⟩ := qV h
      refine p2 R 49 R 50 R (vX R el32 R c364.1 c364.2) <| fd R R fo92_3 R <| ld R R sh90 <| p1 R 53 R (vN R elS90) <| p2 R 47 R 54 R (qB R R) <| qx <| qw (env' := [(55, _), (5, _), (3, _), (4, _), (1, _)]) (.o4 R (.one R (.nil _))) <| qq ?_
      refine qZ h R (fun hb365 h => ?_) (fun hb365 h => ?_)
      ·refine qK <| qq <| qX <| vj <| sr <| fd R R fo35_0 R <| ld R R sh32 <| mv R R ?_
       obtain ⟨c366, h⟩ := qV h
       refine p2 R 59 R 60 R (vX R el32 R c366.1 c366.2) <| fd R R fo92_3 R <| ld R R sh90 <| mv R R ?_
       obtain ⟨c367, h⟩ := qV h
       refine p2 R 63 R 64 R (vX R el90 R c367.1 c367.2) <| lS R R sh95 R R <| WL.w [] R (qj R) R R .nil (w_alloc R z95 (l := [EqA (strV ([] : Str)), iA 0, iA 0, EqA (.slice none 0 0)]) R) ?_
       rintro _ _ ⟨b368, rfl, rfl⟩
       refine WL.w0 [0] R (qj R) R (.s 6 R (.s 66 R .nil)) (w_store (L := [EqA (strV ((rd ((rd a0.fNodes x4).fAttrs) x5).fName)), iA ((rd ((rd a0.fNodes x4).fAttrs) x5).fLow), iA ((rd ((rd a0.fNodes x4).fAttrs) x5).fHigh), SlcA kStr ((rd ((rd a0.fNodes x4).fAttrs) x5).fNames)]) R sh95 (qz _) R R (leB R) R) ?_
       rintro _ _ ⟨rfl, rfl⟩
       refine qx <| QN.to (StTo.still [0] 6 R R) <| qw (env' := [(6, _), (5, _), (3, _), (4, _), (1, _)]) (.o4 R (.one R (.nil _))) <| qq <| qX <| qX ?_
       refine W.jn1 (Γ := Unit) (fun (_ : Unit) (x76 : Bool) => [(1, PtrA [SlcA kNodeType a0.fNodes, SlcA kEdgeType a0.fEdges]), (4, iA x4), (3, iA (x3 + (((rd a0.fNodes x4).fAttrs).length : Int))), (5, iA x5), (6, PtrA [EqA (strV ((rd ((rd a0.fNodes x4).fAttrs) x5).fName)), iA ((rd ((rd a0.fNodes x4).fAttrs) x5).fLow), iA ((rd ((rd a0.fNodes x4).fAttrs) x5).fHigh), SlcA kStr ((rd ((rd a0.fNodes x4).fAttrs) x5).fNames)]), (76, bA x76)]) (fun (_ : Unit) (_ : Bool) => []) h (fun _ x76 h => ?_) (fun j371 Kj371 h => ?_)
       ·refine qq ?_
        refine qZ h R (fun hb372 h => ?_) (fun hb372 h => ?_)
        ·refine sr <| ak R <| nt <| qN <| qy <| vx <| qy <| qy <| vx <| vx <| qy ?_
         refine qy <| vx <| qy ?_
         cases h
         exact vW R R (.t R) (.id _)
        ·refine qK <| qq <| sr <| ak R <| nt <| vj ?_
         refine W.loop1 (Γ := Unit) (fun (_ : Unit) (x7 : Int) => [(1, PtrA [SlcA kNodeType a0.fNodes, SlcA kEdgeType a0.fEdges]), (4, iA x4), (3, iA (x3 + (((rd a0.fNodes x4).fAttrs).length : Int))), (5, iA x5), (6, PtrA [EqA (strV ((rd ((rd a0.fNodes x4).fAttrs) x5).fName)), iA ((rd ((rd a0.fNodes x4).fAttrs) x5).fLow), iA ((rd ((rd a0.fNodes x4).fAttrs) x5).fHigh), SlcA kStr ((rd ((rd a0.fNodes x4).fAttrs) x5).fNames)]), (7, iA x7)]) (fun (_ : Unit) (_ : Int) => []) h () (.o4 R (.o2 R (.nil _))) R (fun rec2 K2 next2 _ x7 h => ?_)
         unfold ref04_Few.b2 at h
         refine qX <| sr <| mv R R <| fd R R fo95_3 R <| ld R R sh93 <| p1 R 79 R (vN R elS93) <| p2 R 77 R 80 R (qB R R) <| nt ?_
         refine qZ h R (fun hb383 h => ?_) (fun hb383 h => ?_)
         ·refine qK <| qq <| qX <| vj <| sr <| fd R R fo95_3 R <| ld R R sh93 <| mv R R ?_
          obtain ⟨c384, h⟩ := qV h
          refine p2 R 85 R 86 R (vX R el93 R c384.1 c384.2) <| ld R R sh9 <| p1 R 88 R (q_slen (s := (rd ((rd ((rd a0.fNodes x4).fAttrs) x5).fNames) x7)) R iss9) <| pk R 89 R (qB R R) <| qx <| qw (env' := [(90, _), (7, _), (6, _), (5, _), (3, _), (4, _), (1, _)]) (.o4 R (.o2 R (.one R (.nil _)))) <| qq ?_
          refine qZ h R (fun hb385 h => ?_) (fun hb385 h => ?_)
          ·refine sr <| ak R <| qx <| qw (env' := [(2, _)]) (.one R (.nil _)) <| qq <| qN <| vx <| qy <| qy <| vx <| vx <| qy ?_
           refine qy <| vx <| vx <| qy <| qy <| vx <| qy ?_
           cases h
           exact vW R R (.t R) (.id _)
          ·refine qK <| vJ <| qq <| qJ <| mv R R ?_
           obtain ⟨c386, h⟩ := qV h
           refine pk R 82 R (vV R c386) <| av R R <| qx ?_
           exact next2 () (x7 + 1) _ h (.o4 R (.o2 R (.nil _)))
         ·refine W.exit <| vq <| vq <| vB <| vJ <| qw (env' := [(5, _), (3, _), (4, _), (1, _)]) (.o4 R (.nil _)) <| qq <| qJ <| mv R R ?_
          obtain ⟨c387, h⟩ := qV h
          refine pk R 56 R (vV R c387) <| av R R <| qx ?_
          exact next1 () (x5 + 1) _ h (.o4 R (.nil _))
       ·refine qJ <| fd R R fo95_0 R <| ld R R sh9 <| p1 R 68 R (q_slen (s := (rd ((rd a0.fNodes x4).fAttrs) x5).fName) R iss9) <| pk R 69 R (qB R R) <| mv R R ?_
        rcases bif_s h with ⟨hb388, h⟩ | ⟨hb388, h⟩
        ·refine sk R R R hb388 <| sk R R R hb388 <| sk R R R hb388 <| sk R R R hb388 <| pk R 71 R (vy R hb388) <| qx ?_
         exact qw (.o4 R (.o2 R (.nil _))) (Kj371 () true h)
        ·refine wf R R R hb388 R R fo95_3 R <| wl R R R hb388 R R sh93 <| wq R R R hb388 (.s 73 R .nil) (vN R elS93).o <| wq R R R hb388 (.s 74 R (.k .nil)) (qB R R).o <| p2 R 71 R 75 R (vz R hb388) <| qx ?_
         exact qw (.o4 R (.o2 R (.nil _))) (Kj371 () (decide ((((rd ((rd a0.fNodes x4).fAttrs) x5).fNames).length : Int) > 25)) h)
      ·refine W.exit <| vq <| vq <| vB <| vJ <| qq <| qJ <| mv R R ?_
       obtain ⟨c389, h⟩ := qV h
       refine pk R 24 R (vV R c389) <| av R R <| qx ?_
       exact next0 () (x3 + (((rd a0.fNodes x4).fAttrs).length : Int)) (x4 + 1) _ h (.o2 R (.one R (.nil _)))
    ·refine qJ <| mv R R <| pk R 35 R (qB R R) <| mv R R ?_
     rcases bif_s h with ⟨hb390, h⟩ | ⟨hb390, h⟩
     ·refine sk R R R hb390 <| sk R R R hb390 <| sk R R R hb390 <| sk R R R hb390 <| sk R R R hb390 <| sk R R R hb390 <| sk R R R hb390 <| sk R R R hb390 <| pk R 37 R (vy R hb390) <| qx ?_
      exact qw (.o4 R (.nil _)) (Kj310 () true h)
     ·refine wf R R R hb390 R R fo35_0 R <| wl R R R hb390 R R sh32 <| wm R R R hb390 R R ?_
      obtain ⟨c391, h⟩ := qV h
      refine wq R R R hb390 (.s 39 R (.s 40 R .nil)) (vX R el32 R c391.1 c391.2).o <| wf R R R hb390 R R fo92_0 R <| wl R R R hb390 R R sh9 <| wq R R R hb390 (.s 43 R .nil) (q_slen (s := (rd a0.fNodes x4).fName) R iss9).o <| wq R R R hb390 (.s 44 R (.k .nil)) (qB R R).o <| p2 R 37 R 45 R (vz R hb390) <| qx ?_
      exact qw (.o4 R (.nil _)) (Kj310 () (decide ((((rd a0.fNodes x4).fName).length : Int) > 40)) h)
   ·refine W.exit <| vq <| vq <| vB <| qw (env' := [(1, _)]) (.one R (.nil _)) <| qq <| qX <| sr <| ak R <| nt <| vj ?_
    refine W.loop1 (Γ := Unit) (fun (_ : Unit) (x8 : Int) => [(1, PtrA [SlcA kNodeType a0.fNodes, SlcA kEdgeType a0.fEdges]), (8, iA x8)]) (fun (_ : Unit) (_ : Int) => []) h () (.o2 R (.nil _)) R (fun rec3 K3 next3 _ x8 h => ?_)
    unfold ref04_Few.b3 at h
    refine qX <| sr <| mv R R <| fd R R fo35_1 R <| ld R R sh33 <| p1 R 93 R (vN R elS33) <| p2 R 91 R 94 R (qB R R) <| nt ?_
    refine qZ h R (fun hb400 h => ?_) (fun hb400 h => ?_)
    ·refine qK <| qq <| qX <| vj <| sr <| fd R R fo35_1 R <| ld R R sh33 <| mv R R ?_
     obtain ⟨c401, h⟩ := qV h
     refine p2 R 99 R 100 R (vX R el33 R c401.1 c401.2) <| fd R R fo97_0 R <| ld R R sh9 <| p1 R 103 R (q_slen (s := (rd a0.fEdges x8).fName) R iss9) <| pk R 104 R (qB R R) <| qx <| qw (env' := [(105, _), (8, _), (1, _)]) (.o2 R (.one R (.nil _))) <| qq ?_
     refine qZ h R (fun hb402 h => ?_) (fun hb402 h => ?_)
     ·refine sr <| ak R <| nt <| qN <| vx <| qy <| qy <| vx <| qy ?_
      cases h
      exact vW R R (.t R) (.id _)
     ·refine qK <| vJ <| qq <| qJ <| mv R R ?_
      obtain ⟨c403, h⟩ := qV h
      refine pk R 96 R (vV R c403) <| av R R <| qx ?_
      exact next3 () (x8 + 1) _ h (.o2 R (.nil _))
    ·refine W.exit <| vq <| vq <| vB <| qw (env' := []) (.nil _) <| qq <| sr <| ak R <| nt <| qN ?_
     cases h
     exact vW R R (.t R) (.id _)
 ·refine qJ <| fd R R fo35_0 R <| ld R R sh32 <| p1 R 10 R (vN R elS32) <| pk R 11 R (qB R R) <| mv R R ?_
  rcases bif_s h with ⟨hb404, h⟩ | ⟨hb404, h⟩
  ·refine sk R R R hb404 <| sk R R R hb404 <| sk R R R hb404 <| sk R R R hb404 <| pk R 13 R (vy R hb404) <| qx ?_
   exact qw (.o2 R (.nil _)) (Kj102 () true h)
  ·refine wf R R R hb404 R R fo35_1 R <| wl R R R hb404 R R sh33 <| wq R R R hb404 (.s 15 R .nil) (vN R elS33).o <| wq R R R hb404 (.s 16 R (.k .nil)) (qB R R).o <| p2 R 13 R 17 R (vz R hb404) <| qx ?_
   exact qw (.o2 R (.nil _)) (Kj102 () (decide ((a0.fEdges.length : Int) > 30)) h)
theorem ref05_Few.con (k : Nat) (a0 : Graph) (r : Bool) (h : ref05_Few k a0 = some r) : Con Tryz.prog 43 [] [AggA [SlcA kInt a0.fNodes, SlcA kEdge a0.fEdges]] (RA (bA r)) := by
 unfold ref05_Few at h
 refine vZ (N := 13) Tryz.func43 R R R fun w0_ fg_ => sr <| p1 R 0 R (q_box R (qz _)) <| ak R <| nt <| qX ?_
 refine W.jn1 (Γ := Unit) (fun (_ : Unit) (x2 : Bool) => [(2, bA x2)]) (fun (_ : Unit) (_ : Bool) => []) h (fun _ x2 h => ?_) (fun j102 Kj102 h => ?_)
 ·refine qq <| qN ?_
  cases h
  exact vW R R (.t R) (.id _)
 ·refine qJ <| fd R R fo38_0 R <| ld R R sh26 <| p1 R 4 R (vN R elS26) <| pk R 5 R (qB R R) <| mv R R ?_
  rcases bif_s h with ⟨hb103, h⟩ | ⟨hb103, h⟩
  ·refine wf R R R hb103 R R fo38_1 R <| wl R R R hb103 R R sh36 <| wq R R R hb103 (.s 9 R .nil) (vN R elS36).o <| wq R R R hb103 (.s 10 R (.k .nil)) (qB R R).o <| p2 R 7 R 11 R (vy R hb103) <| av R R <| qx ?_
   exact qw (.one R (.nil _)) (Kj102 () (decide ((a0.fEdges.length : Int) ≤ 90)) h)
  ·refine sk R R R hb103 <| sk R R R hb103 <| sk R R R hb103 <| sk R R R hb103 <| pk R 7 R (vz R hb103) <| av R R <| qx ?_
   exact qw (.one R (.nil _)) (Kj102 () false h)
theorem ref21_Few.con (k : Nat) (a0 : Pattern) (r : Bool) (h : ref21_Few k a0 = some r) : Con Tryz.prog 14 [] [AggA [SlcA kInt a0.fGraph.fNodes, SlcA kEdge a0.fGraph.fEdges, SlcA kSlot a0.fSlots, iA a0.fVars, SlcA kTest a0.fTests]] (RA (bA r)) := by
 unfold ref21_Few at h
 refine vZ (N := 18) Tryz.func14 R R R fun w0_ fg_ => sr <| p1 R 0 R (q_box R (qz _)) <| ak R <| nt <| qX ?_
 refine W.jn1 (Γ := Unit) (fun (_ : Unit) (x2 : Bool) => [(2, bA x2)]) (fun (_ : Unit) (_ : Bool) => []) h (fun _ x2 h => ?_) (fun j104 Kj104 h => ?_)
 ·refine qq <| qN ?_
  cases h
  exact vW R R (.t R) (.id _)
 ·refine qJ <| fd R R fo42_0 R <| lS R R sh38 R R ?_
  obtain ⟨t105, ht105, h⟩ := vw h
  refine p1 R 4 R (vQ (f := 43) (A := bA t105) (xs := [.tmp 4]) («as» := [AggA [SlcA kInt a0.fGraph.fNodes, SlcA kEdge a0.fGraph.fEdges]]) R ca43 (ref05_Few.con k a0.fGraph t105 ht105) R) <| mv R R ?_
  rcases bif_s h with ⟨hb106, h⟩ | ⟨hb106, h⟩
  ·refine wf R R R hb106 R R fo42_1 R <| wl R R R hb106 R R sh39 <| wq R R R hb106 (.s 8 R .nil) (vN R elS39).o <| wq R R R hb106 (.s 9 R (.k .nil)) (qB R R).o <| p2 R 6 R 10 R (vy R hb106) <| mv R R ?_
   rcases bif_s h with ⟨hb107, h⟩ | ⟨hb107, h⟩
   ·refine wf R R R hb107 R R fo42_3 R <| wl R R R hb107 R R sh40 <| wq R R R hb107 (.s 14 R .nil) (vN R elS40).o <| wq R R R hb107 (.s 15 R (.k .nil)) (qB R R).o <| p2 R 12 R 16 R (vy R hb107) <| av R R <| qx ?_
    exact qw (.one R (.nil _)) (Kj104 () (decide ((a0.fTests.length : Int) ≤ 15)) h)
   ·refine sk R R R hb107 <| sk R R R hb107 <| sk R R R hb107 <| sk R R R hb107 <| pk R 12 R (vz R hb107) <| av R R <| qx ?_
    exact qw (.one R (.nil _)) (Kj104 () false h)
  ·refine sk R R R hb106 <| sk R R R hb106 <| sk R R R hb106 <| sk R R R hb106 <| pk R 6 R (vz R hb106) <| mv R R <| sk R R R R <| sk R R R R <| sk R R R R <| sk R R R R <| pk R 12 R (vz R R) <| av R R <| qx ?_
   exact qw (.one R (.nil _)) (Kj104 () false h)
theorem ref05_Copied.con (k : Nat) (a0 : Graph) (r : Graph) (h : ref05_Copied k a0 = some r) : Con Tryz.prog 46 [] [AggA [SlcA kInt a0.fNodes, SlcA kEdge a0.fEdges]] (fun O' A => ∃ u0 u1, O' = [SlE 3 u0 kInt r.fNodes, SlE 109 u1 kEdge r.fEdges] ∧ A = AggA [HdA u0, HdA u1]) := by
 unfold ref05_Copied at h
 refine vZ (N := 12) Tryz.func46 R R R fun w0_ fg_ => sr <| p1 R 0 R (q_box R (qz _)) <| WL.w [] R (qj R) R R .nil (w_alloc R z38 (l := [EqA (.slice none 0 0), EqA (.slice none 0 0)]) R) ?_
 rintro _ _ ⟨b100, rfl, rfl⟩
 refine nt <| qX <| W.drawK [(0, false), (1, false), (2, false), (4, false), (5, false), (6, false)] [3, 7, 8, 9] (bm [0, 0, 2, 7, 0, 0, 32, 127, 255, 511]) mx (by kernel_rfl) <| qQ R R (.p R .nil R (q_lit0 R el26 gr3)) <| df R R R fo38_0 R <| dl R R R sh26 ?_
 obtain ⟨c109, h⟩ := qV h
 refine qQ R R (.p R .nil R (q_lit0 R el36 gr109)) <| df R R R fo38_1 R <| dl R R R sh36 ?_
 obtain ⟨c111, h⟩ := qV h
 refine DK.nil <| CSteps.w [] R R R R (.s 3 R (.s 5 R .nil)) R (w_appendZ (kd := kInt) R el26 R gr3 c109) ?_
 rintro _ _ ⟨v110, rfl, rfl⟩
 refine CSteps.w [] R R R R (.s 7 R (.s 9 R .nil)) R (w_appendZ (kd := kEdge) R el36 R gr109 c111) ?_
 rintro _ _ ⟨v112, rfl, rfl⟩
 refine CSteps.p R R R (.s 6 R (.s 10 R .nil)) R (q_build (is := [0, 1]) (xs := [.tmp 6, .tmp 10]) (L := [HdA v110, HdA v112]) R R z38 pl38 R R (.cons (qW R) (.cons (qW R) .nil)) R) <| CSteps.w0 [2] R R R (.s 2 R (.s 11 R .nil)) R (w_store (L := [HdA v110, HdA v112]) R sh38 (qz _) R R (leB R) R) ?_
 rintro _ _ ⟨rfl, rfl⟩
 refine CSteps.nil <| QN.to (StTo.still [0] 2 R R) <| qw (env' := [(2, _)]) (.one R (.nil _)) <| qq <| qN ?_
 cases h
 refine QR.order [1, 0] R ?_
 exact QR.r1 R R (.ps R sh38 R) ⟨v110, v112, R, R⟩
theorem ref21_Copied.con (k : Nat) (a0 : Pattern) (r : Pattern) (h : ref21_Copied k a0 = some r) : Con Tryz.prog 16 [] [AggA [SlcA kInt a0.fGraph.fNodes, SlcA kEdge a0.fGraph.fEdges, SlcA kSlot a0.fSlots, iA a0.fVars, SlcA kTest a0.fTests]] (RA (AggA [SlcA kInt r.fGraph.fNodes, SlcA kEdge r.fGraph.fEdges, SlcA kSlot r.fSlots, iA r.fVars, SlcA kTest r.fTests])) := by
 unfold ref21_Copied at h
 refine vZ (N := 17) Tryz.func16 R R R fun w0_ fg_ => sr <| p1 R 0 R (q_box R (qz _)) <| WL.w [] R (qj R) R R .nil (w_alloc R z42 (l := [EqA (.slice none 0 0), EqA (.slice none 0 0), EqA (.slice none 0 0), iA 0, EqA (.slice none 0 0)]) R) ?_
 rintro _ _ ⟨b100, rfl, rfl⟩
 refine nt <| qX <| W.drawK [(0, false), (1, false), (3, false), (4, false), (5, false), (7, false), (8, false), (9, false), (10, false), (11, false)] [2, 6, 12, 13, 14] (bm [0, 1, 3, 0, 0, 16, 63, 0, 128, 0, 0, 1024, 3711, 8191, 16383]) mx (by kernel_rfl) <| df R R R fo42_0 R <| qQ R R (.p R (.s 3 R .nil) R (q_loadS R sh38 (leB R) R)) ?_
 obtain ⟨t111, ht111, h⟩ := vw h
 refine qQ R R (.p R .nil R (q_lit0 R el39 gr113)) <| df R R R fo42_1 R <| dl R R R sh39 ?_
 obtain ⟨c114, h⟩ := qV h
 refine df R R R fo42_2 R <| dl R R R sh3 <| qQ R R (.p R .nil R (q_lit0 R el40 gr86)) <| df R R R fo42_3 R <| dl R R R sh40 ?_
 obtain ⟨c115, h⟩ := qV h
 refine DK.nil <| CSteps.w [] R R R R (.s 4 R .nil) R (w_callI (f := 46) (xs := [.tmp 4]) («as» := [AggA [SlcA kInt a0.fGraph.fNodes, SlcA kEdge a0.fGraph.fEdges]]) R ca46 (ref05_Copied.con k a0.fGraph t111 ht111) R (.cons (Imp.id _) .nil)) ?_
 rintro _ _ ⟨v112, v113, rfl, rfl⟩
 refine CSteps.p R R R (.s 6 R (.s 8 R .nil)) R (QS.of_new (w_appendZ (kd := kSlot) R el39 R gr113 c114)) <| CSteps.p R R R (.s 12 R (.s 14 R .nil)) R (QS.of_new (w_appendZ (kd := kTest) R el40 R gr86 c115)) <| CSteps.p R R R (.s 5 R (.s 9 R (.s 11 R (.s 15 R .nil)))) R (q_build (is := [0, 1, 2, 3]) (xs := [.tmp 5, .tmp 9, .tmp 11, .tmp 15]) (L := [HdA v112, HdA v113, SlcA kSlot a0.fSlots, iA a0.fVars, SlcA kTest a0.fTests]) R R z42 pl42 R R (.cons (qz _) (.cons (qW R) (.cons (qW R) (.cons (qW R) .nil)))) R) <| CSteps.w0 [2] R R R (.s 2 R (.s 16 R .nil)) R (w_store (L := [HdA v112, HdA v113, SlcA kSlot a0.fSlots, iA a0.fVars, SlcA kTest a0.fTests]) R sh42 (qz _) R R (leB R) R) ?_
 rintro _ _ ⟨rfl, rfl⟩
 refine CSteps.nil <| QN.to (StTo.still [0] 2 R R) <| qw (env' := [(2, _)]) (.one R (.nil _)) <| qq <| qN ?_
 cases h
 exact vW R R (.ps R sh42 R) (.agg (.cons (.slc 0 R) (.cons (.slc 1 R) (.cons (.id _) (.cons (.id _) (.cons (.id _) .nil))))))
theorem slices_Clone_Edge.conN (k : Nat) (a0 : (List Edge)) (r : (List Edge)) (h : slices_Clone_Edge k a0 = some r) : Con Tryz.prog 65 [] [SlcA kEdge a0] (RApp 109 kEdge r) := by
  unfold slices_Clone_Edge at h
  obtain ⟨hl, h⟩ := qV h
  cases h
  refine vZ (N := 8) Tryz.func65 R R R fun w0_ fg_ => ?_
  refine qX (qJ (ak R (qx (qq ?_))))
  refine qX (qX (qJ (mv R R (p1 R 3 R (q_nilAny (kd := kEdge) (xs := a0) R elS36) (qx (qq ?_))))))
  refine W.condAny R (fun hp => ?_) (fun _ => ?_)
  · have hn := hp R
    subst hn
    refine qX (qJ (ak R (qx (qq ?_))))
    refine qN (qy ?_)
    refine QR.to (StTo.newNil 109 kEdge) ?_
    refine QR.to (StTo.as 2 R Imp.nilHd) ?_
    exact QR.tmp R R ⟨_, R, R⟩
  · refine qK (qq ?_)
    refine qX (qJ ?_)
    refine WL.p R R R .nil (q_lit0 R el36 gr109) ?_
    refine mv R R ?_
    refine WL.w [] R (qj R) R R (.s 5 R (.s 6 R .nil)) (w_appendZ (kd := kEdge) R el36 R gr109 hl) ?_
    rintro _ _ ⟨v, rfl, rfl⟩
    refine av R R ?_
    refine qx (qq ?_)
    refine qN ?_
    exact QR.tmp R R ⟨_, R, R⟩
theorem slices_Clone_Edge.con (k : Nat) (a0 : (List Edge)) (r : (List Edge)) (h : slices_Clone_Edge k a0 = some r) : Con Tryz.prog 65 [] [SlcA kEdge a0] (RA (SlcA kEdge r)) := Con.free (slices_Clone_Edge.conN k a0 r h)
theorem attribute_grounded.con (k : Nat) (a0 : Term) (a1 : (List Int)) (r : (Term × Bool)) (h : attribute_grounded k a0 a1 = some r) : Con Tryz.prog 67 [] [AggA [iA a0.fVar, iA a0.fAdd], SlcA kInt a1] (RA (TupA [AggA [iA r.1.fVar, iA r.1.fAdd], bA r.2])) := by
 unfold attribute_grounded at h
 refine vZ (N := 14) Tryz.func67 R R R fun w0_ fg_ => sr <| p1 R 0 R (q_box R (qz _)) <| WL.w [] R (qj R) R R .nil (w_alloc R z23 (l := [iA 0, iA 0]) R) ?_
 rintro _ _ ⟨b100, rfl, rfl⟩
 refine ak R <| nx <| lS R R sh23 R R <| mv R R ?_
 obtain ⟨t101, ht101, h⟩ := vw h
 refine p2 R 7 R 8 R (vQ (f := 41) (A := iA t101) (xs := [.tmp 7, .tmp 8]) («as» := [AggA [iA a0.fVar, iA a0.fAdd], SlcA kInt a1]) R ca41 (attribute_value.con k a0 a1 t101 ht101) R) <| av R R <| qx <| qw (env' := [(6, _), (4, _)]) (.o2 R (.nil _)) <| qq <| sr <| mv R R <| WL.p R R R (.k (.s 10 R .nil)) (q_build (is := [0, 1]) (xs := [.const (.int .i64 (-1)), .tmp 10]) (L := [iA (-1), iA t101]) R R z23 pl23 R R (.cons (qW R) (.cons (qW R) .nil)) R) <| mv R R ?_
 obtain ⟨t102, ht102, h⟩ := vw h
 refine WL.p R R R (.s 12 R (.k (.k .nil))) (vQ (f := 40) (A := bA t102) (xs := [.tmp 12, .const (.int .i64 (-1000000)), .const (.int .i64 1000000)]) («as» := [iA t101, iA (-1000000), iA 1000000]) R ca40 (attribute_within.con k t101 (-1000000) 1000000 t102 ht102) R) <| WL.w0 [0] R (qj R) R (.s 4 R (.s 11 R .nil)) (w_store (L := [iA (-1), iA t101]) R sh23 (qz _) R R (leB R) R) ?_
 rintro _ _ ⟨rfl, rfl⟩
 refine av R R <| qx <| QN.to (StTo.still [0] 4 R R) <| qq <| qN ?_
 cases h
 exact QR.f2 R R (.ps R sh23 R) (.t R) (.id _)
theorem attribute_Ground_1.con (k : Nat) (b : Nat) (a0 : Term) (a1 : (List Int)) (a2 : Bool) (r : (Term × Bool)) (h : attribute_Ground_1 k a0 a1 a2 = some r) : Con Tryz.prog 66 [BoxE b [bA a2]] [AggA [iA a0.fVar, iA a0.fAdd], PtrA [SlcA kInt a1], EqA (.pointer (some ⟨b, 0, none⟩))] (fun O' A => O' = [BoxE b [bA r.2]] ∧ A = AggA [iA r.1.fVar, iA r.1.fAdd]) := by
 unfold attribute_Ground_1 at h
 refine vZ (N := 18) Tryz.func66 R R R fun w0_ fg_ => sr <| p1 R 0 R (q_box R (qz _)) <| WL.w [] R (qj R) R R .nil (w_alloc R z23 (l := [iA 0, iA 0]) R) ?_
 rintro _ _ ⟨b100, rfl, rfl⟩
 refine nx <| lS R R sh23 R R <| ld R R sh26 ?_
 obtain ⟨t101, ht101, h⟩ := vw h
 refine p2 R 8 R 9 R (vQ (f := 67) (A := TupA [AggA [iA t101.1.fVar, iA t101.1.fAdd], bA t101.2]) (xs := [.tmp 8, .tmp 9]) («as» := [AggA [iA a0.fVar, iA a0.fAdd], SlcA kInt a1]) R ca67 (attribute_grounded.con k a0 a1 t101 ht101) R) <| mv R R <| p1 R 7 R (vK R R) <| p1 R 7 R (vK R R) <| WL.w [] R (qj R) R R .nil (w_alloc R z23 (l := [iA 0, iA 0]) R) ?_
 rintro _ _ ⟨b102, rfl, rfl⟩
 refine WL.w0 [0] R (qj R) R (.s 5 R (.s 11 R .nil)) (w_store (L := [iA t101.1.fVar, iA t101.1.fAdd]) R sh23 (qz _) R R (leB R) R) ?_
 rintro _ _ ⟨rfl, rfl⟩
 refine av R R <| qx <| QN.to (StTo.still [0] 5 R R) <| qw (env' := [(6, _), (5, _), (4, _), (2, _)]) (.o4 R (.nil _)) <| qq <| qX ?_
 refine W.jn1 (Γ := Unit) (fun (_ : Unit) (_ : Bool) => [(2, EqA (.pointer (some ⟨b, 0, none⟩))), (4, EqA (.pointer (some ⟨b100, 0, none⟩))), (5, PtrA [iA t101.1.fVar, iA t101.1.fAdd])]) (fun (_ : Unit) (y0 : Bool) => [BoxE b [bA y0], BoxE b100 [iA 0, iA 0]]) h (fun _ y0 h => ?_) (fun j105 Kj105 h => ?_)
 ·refine qq <| sr <| lS R R sh23 R R <| WL.w0 [1] R (qj R) R (.s 4 R (.s 17 R .nil)) (w_store (L := [iA t101.1.fVar, iA t101.1.fAdd]) R sh23 (qz _) R R (leB R) R) ?_
  rintro _ _ ⟨rfl, rfl⟩
  refine qx <| QN.to (StTo.still [0] 4 R R) <| qq <| qN ?_
  cases h
  exact QR.r1 R R (.ps R sh23 R) ⟨R, R⟩
 ·refine qJ <| WL.q (qj R) R R (.s 2 R .nil) (q_loadB R sh4 (i := 1) R R) <| mv R R ?_
  rcases bif_s h with ⟨hb106, h⟩ | ⟨hb106, h⟩
  ·refine wm R R R hb106 R R <| p2 R 14 R 15 R (vy R hb106) <| WL.w0 [1] R (qj R) R (.s 2 R (.s 16 R .nil)) (w_store (L := [bA t101.2]) R sh4 (qW R) R R (leB R) R) ?_
   rintro _ _ ⟨rfl, rfl⟩
   refine qx ?_
   exact qw (.o2 R (.one R (.nil _))) (Kj105 () t101.2 h)
  ·refine sk R R R hb106 <| pk R 14 R (vz R hb106) <| WL.w0 [1] R (qj R) R (.s 2 R (.s 16 R .nil)) (w_store (L := [bA false]) R sh4 (qW R) R R (leB R) R) ?_
   rintro _ _ ⟨rfl, rfl⟩
   refine qx ?_
   exact qw (.o2 R (.one R (.nil _))) (Kj105 () false h)
theorem attribute_Ground.con (k : Nat) (a0 : Types) (a1 : Pattern) (a2 : (List Int)) (r : (Pattern × Int)) (h : attribute_Ground k a0 a1 a2 = some r) : Con Tryz.prog 21 [] [AggA [SlcA kNodeType a0.fNodes, SlcA kEdgeType a0.fEdges], AggA [SlcA kInt a1.fGraph.fNodes, SlcA kEdge a1.fGraph.fEdges, SlcA kSlot a1.fSlots, iA a1.fVars, SlcA kTest a1.fTests], SlcA kInt a2] (RA (TupA [AggA [SlcA kInt r.1.fGraph.fNodes, SlcA kEdge r.1.fGraph.fEdges, SlcA kSlot r.1.fSlots, iA r.1.fVars, SlcA kTest r.1.fTests], iA r.2])) := by
 unfold attribute_Ground at h
 refine vZ (N := 90) Tryz.func21 R R R fun w0_ fg_ => sr <| p1 R 0 R (q_box R (qz _)) <| p1 R 1 R (q_box R (qz _)) <| p1 R 2 R (q_box R (qW R)) <| WL.w [] R (qj R) R R .nil (w_alloc R z42 (l := [EqA (.slice none 0 0), EqA (.slice none 0 0), EqA (.slice none 0 0), iA 0, EqA (.slice none 0 0)]) R) ?_
 rintro _ _ ⟨b100, rfl, rfl⟩
 refine ak R <| nt <| qX <| sr <| lS R R sh35 R R <| lS R R sh42 R R ?_
 obtain ⟨t101, ht101, h⟩ := vw h
 refine p2 R 16 R 17 R (vQ (f := 18) (A := iA t101) (xs := [.tmp 16, .tmp 17]) («as» := [AggA [SlcA kNodeType a0.fNodes, SlcA kEdgeType a0.fEdges], AggA [SlcA kInt a1.fGraph.fNodes, SlcA kEdge a1.fGraph.fEdges, SlcA kSlot a1.fSlots, iA a1.fVars, SlcA kTest a1.fTests]]) R ca18 (attribute_Valid.con k a0 a1 t101 ht101) R) <| av R R <| qx <| qw (env' := [(8, _), (6, _), (5, _), (4, _)]) (.o4 R (.nil _)) <| qq <| sr <| mv R R <| pk R 19 R (qB R R) <| nt ?_
 refine qZ h R (fun hb102 h => ?_) (fun hb102 h => ?_)
 ·refine sr <| WL.p R R R .nil (q_build (is := []) (xs := []) (L := [EqA (.slice none 0 0), EqA (.slice none 0 0), EqA (.slice none 0 0), iA 0, EqA (.slice none 0 0)]) R R z42 pl42 R R .nil R) <| mv R R <| WL.w0 [0] R (qj R) R (.s 6 R (.s 21 R .nil)) (w_store (L := [EqA (.slice none 0 0), EqA (.slice none 0 0), EqA (.slice none 0 0), iA 0, EqA (.slice none 0 0)]) R sh42 (qz _) R R (leB R) R) ?_
  rintro _ _ ⟨rfl, rfl⟩
  refine av R R <| qx <| qw (env' := [(7, _), (6, _)]) (.o2 R (.nil _)) <| qq <| qN <| qy ?_
  cases h
  exact QR.f2 R R (.cs (i := 0) R sh42 R R) (.t R) (.imp (Imp.tup (.cons (Imp.agg (.cons (Imp.nil kInt) (.cons (Imp.nil kEdge) (.cons (Imp.nil kSlot) (.cons (Imp.id _) (.cons (Imp.nil kTest) .nil)))))) (.cons (Imp.id _) .nil))))
 ·refine qK <| qq <| qX <| sr <| ld R R sh26 <| p1 R 23 R (vN R elS26) <| fd R R fo42_2 R <| ld R R sh3 <| p2 R 24 R 26 R (qB R R) <| qx <| qw (env' := [(27, _), (6, _), (5, _), (4, _)]) (.o4 R (.nil _)) <| qq ?_
  refine qZ h R (fun hb103 h => ?_) (fun hb103 h => ?_)
  ·refine sr <| WL.p R R R .nil (q_build (is := []) (xs := []) (L := [EqA (.slice none 0 0), EqA (.slice none 0 0), EqA (.slice none 0 0), iA 0, EqA (.slice none 0 0)]) R R z42 pl42 R R .nil R) <| WL.w0 [0] R (qj R) R (.s 6 R (.s 28 R .nil)) (w_store (L := [EqA (.slice none 0 0), EqA (.slice none 0 0), EqA (.slice none 0 0), iA 0, EqA (.slice none 0 0)]) R sh42 (qz _) R R (leB R) R) ?_
   rintro _ _ ⟨rfl, rfl⟩
   refine ak R <| nt <| qN <| qy ?_
   cases h
   exact QR.f2 R R (.cs (i := 0) R sh42 R R) (.t R) (.imp (Imp.tup (.cons (Imp.agg (.cons (Imp.nil kInt) (.cons (Imp.nil kEdge) (.cons (Imp.nil kSlot) (.cons (Imp.id _) (.cons (Imp.nil kTest) .nil)))))) (.cons (Imp.id _) .nil))))
  ·refine qK <| qq <| qX <| W.drawK [(0, false), (1, false), (2, false), (3, false), (4, false), (5, false), (6, false), (7, false), (8, false), (9, false)] [10, 11] (bm [0, 1, 3, 7, 0, 16, 48, 127, 255, 511, 0, 2047]) mx (by kernel_rfl) <| df R R R fo42_0 R <| df R R R fo38_0 R <| dl R R R sh26 ?_
   obtain ⟨t110, ht110, h⟩ := vw h
   refine qQ R R (.p R (.s 31 R .nil) R (vQ (f := 11) (A := SlcA kInt t110) (xs := [.tmp 31]) («as» := [SlcA kInt a1.fGraph.fNodes]) R ca11 (slices_Clone_int.con k a1.fGraph.fNodes t110 ht110) R)) <| df R R R fo42_0 R <| df R R R fo38_1 R <| dl R R R sh36 ?_
   obtain ⟨t111, ht111, h⟩ := vw h
   refine qQ R R (.p R (.s 35 R .nil) R (vQ (f := 65) (A := SlcA kEdge t111) (xs := [.tmp 35]) («as» := [SlcA kEdge a1.fGraph.fEdges]) R ca65 (slices_Clone_Edge.con k a1.fGraph.fEdges t111 ht111) R)) <| qQ R R (.p R (.s 32 R (.s 36 R .nil)) R (q_build (is := [0, 1]) (xs := [.tmp 32, .tmp 36]) (L := [SlcA kInt t110, SlcA kEdge t111]) R R z38 pl38 R R (.cons (qW R) (.cons (qW R) .nil)) R)) <| qQ R R (.p R (.s 37 R .nil) R (q_build (is := [0]) (xs := [.tmp 37]) (L := [SlcA kInt t110, SlcA kEdge t111, EqA (.slice none 0 0), iA 0, EqA (.slice none 0 0)]) R R z42 pl42 R R (.cons (qz _) .nil) R)) <| DK.nil <| CSteps.w [] R R R R .nil R (w_alloc R z42 (l := [EqA (.slice none 0 0), EqA (.slice none 0 0), EqA (.slice none 0 0), iA 0, EqA (.slice none 0 0)]) R) ?_
   rintro _ _ ⟨b112, rfl, rfl⟩
   refine CSteps.w0 [0] R R R (.s 9 R (.s 38 R .nil)) R (w_store (L := [SlcA kInt t110, SlcA kEdge t111, EqA (.slice none 0 0), iA 0, EqA (.slice none 0 0)]) R sh42 (qz _) R R (leB R) R) ?_
   rintro _ _ ⟨rfl, rfl⟩
   refine CSteps.nil <| qw (env' := [(9, _), (6, _), (5, _), (4, _)]) (.o4 R (.nil _)) <| qq <| sr <| WL.w [] R (qj R) R R .nil (w_alloc R z4 (l := [bA false]) R) ?_
   rintro _ _ ⟨b113, rfl, rfl⟩
   refine WL.w0 [0] R (qj R) R (.s 10 R (.k .nil)) (w_store (L := [bA true]) R sh4 (qW R) R R (leB R) R) ?_
   rintro _ _ ⟨rfl, rfl⟩
   refine nx <| p2 R 5 R 10 R (q_makeClo (xs := [.tmp 5, .tmp 10]) (L := [PtrA [SlcA kInt a2], EqA (.pointer (some ⟨b113, 0, none⟩))]) R R) <| av R R <| nt <| qX <| sr <| fd R R fo42_1 R <| ld R R sh39 ?_
   refine p1 R 41 R (vN R elS39) <| mk_ R <| nt <| vj <| W.to (StTo.boxImp [1] R (.cons (Imp.id _) (.cons (Imp.id _) (.cons Imp.nilHd (.cons (Imp.id _) (.cons (Imp.id _) .nil)))))) <| W.to (StTo.newNil 113 kSlot) <| W.order [3, 1, 0, 0] R ?_
   refine W.loop3 (Γ := Value) (fun (_ : Value) (_ : (List Slot)) (_ : Bool) (x43 : Int) => [(4, PtrA [SlcA kInt a1.fGraph.fNodes, SlcA kEdge a1.fGraph.fEdges, SlcA kSlot a1.fSlots, iA a1.fVars, SlcA kTest a1.fTests]), (6, EqA (.pointer (some ⟨b100, 0, none⟩))), (9, EqA (.pointer (some ⟨b112, 0, none⟩))), (10, EqA (.pointer (some ⟨b113, 0, none⟩))), (11, CloA 66 [PtrA [SlcA kInt a2], EqA (.pointer (some ⟨b113, 0, none⟩))]), (41, SlcA kSlot a1.fSlots), (42, iA (a1.fSlots.length : Int)), (43, iA x43)]) (fun (g0 : Value) (y2 : (List Slot)) (y0 : Bool) (_ : Int) => [BoxE b100 [EqA (.slice none 0 0), EqA (.slice none 0 0), EqA (.slice none 0 0), iA 0, EqA (.slice none 0 0)], BoxE b112 [SlcA kInt t110, SlcA kEdge t111, HdA g0, iA 0, EqA (.slice none 0 0)], SlE 113 g0 kSlot y2, BoxE b113 [bA y0]]) h (.slice none 0 0) (.o4 R (.o4 R (.nil _))) R (fun rec0 K0 next0 g0 y2 y0 x43 h => ?_)
   unfold attribute_Ground.b0 at h
   refine sr <| p2 R 43 R 42 R (qB R R) <| nt <| qX ?_
   refine qZ h R (fun hb294 h => ?_) (fun hb294 h => ?_)
   ·refine qK <| qq <| qX <| vj <| sr ?_
    obtain ⟨c295, h⟩ := qV h
    refine p2 R 41 R 43 R (vX R el39 R c295.1 c295.2) <| lS R R sh113 R R <| WL.w [] R (qj R) R R .nil (w_alloc R z113 (l := [iA 0, iA 0, iA 0, iA 0]) R) ?_
    rintro _ _ ⟨b296, rfl, rfl⟩
    refine WL.w0 [0] R (qj R) R (.s 13 R (.s 46 R .nil)) (w_store (L := [iA ((rd a1.fSlots x43).fNode), iA ((rd a1.fSlots x43).fAttr), iA ((rd a1.fSlots x43).fTerm.fVar), iA ((rd a1.fSlots x43).fTerm.fAdd)]) R sh113 (qz _) R R (leB R) R) ?_
    rintro _ _ ⟨rfl, rfl⟩
    refine qx <| QN.to (StTo.still [0] 13 R R) <| qq ?_
    refine W.jn2 (Γ := Value) (fun (_ : Value) (_ : (List Slot)) (_ : Bool) => [(4, PtrA [SlcA kInt a1.fGraph.fNodes, SlcA kEdge a1.fGraph.fEdges, SlcA kSlot a1.fSlots, iA a1.fVars, SlcA kTest a1.fTests]), (6, EqA (.pointer (some ⟨b100, 0, none⟩))), (9, EqA (.pointer (some ⟨b112, 0, none⟩))), (10, EqA (.pointer (some ⟨b113, 0, none⟩))), (11, CloA 66 [PtrA [SlcA kInt a2], EqA (.pointer (some ⟨b113, 0, none⟩))]), (41, SlcA kSlot a1.fSlots), (42, iA (a1.fSlots.length : Int)), (43, iA x43)]) (fun (g303 : Value) (y2' : (List Slot)) (y0' : Bool) => [BoxE b100 [EqA (.slice none 0 0), EqA (.slice none 0 0), EqA (.slice none 0 0), iA 0, EqA (.slice none 0 0)], BoxE b112 [SlcA kInt t110, SlcA kEdge t111, HdA g303, iA 0, EqA (.slice none 0 0)], SlE 113 g303 kSlot y2', BoxE b113 [bA y0']]) h (fun g303 y2' y0' h => ?_) (fun j306 Kj306 h => ?_)
    ·refine vJ <| qq <| qJ ?_
     obtain ⟨c307, h⟩ := qV h
     refine pk R 43 R (vV R c307) <| mv R R <| qx ?_
     exact next0 g303 y2' y0' (x43 + 1) _ h (.o4 R (.o4 R (.nil _)))
    ·refine W.drawKT [(0, false), (2, false), (3, false), (4, false), (5, false), (6, false), (7, false), (8, false)] [1, 9, 10, 11, 12, 13, 14] [10, 11, 13] 7 [[], [0], [], [2], [], [4], [], [], [7], [6, 7, 8], [2, 3, 4, 5, 6, 7, 8, 9], [2, 3, 4, 5, 6, 7, 8, 9, 10], [0, 1, 2, 3, 4, 5, 6, 7, 8, 9, 10, 11], [0, 1, 2, 3, 4, 5, 6, 7, 8, 9, 10, 11, 12], [0, 1, 2, 3, 4, 5, 6, 7, 8, 9, 10, 11, 12, 13]] mx (by kernel_rfl) <| DKT.cons R R (.p R (.s 9 R .nil) R (q_fieldP R fo42_1)) <| DKT.cons R R (.p R (.s 13 R .nil) R (q_field R fo113_0 R)) <| DKT.cons R R (.p R (.s 49 R .nil) R (q_load R sh3)) <| DKT.cons R R (.p R (.s 13 R .nil) R (q_field R fo113_1 R)) <| DKT.cons R R (.p R (.s 51 R .nil) R (q_load R sh3)) <| DKT.cons R R (.p R (.s 11 R .nil) R (q_move R)) <| DKT.cons R R (.p R (.s 13 R .nil) R (q_field R fo113_2 R)) <| DKT.cons R R (.p R (.s 54 R .nil) R (q_loadS R sh23 (leB R) R)) ?_
     obtain ⟨t308, ht308, h⟩ := vw h
     obtain ⟨c309, h⟩ := qV h
     refine DKT.nil <| CT.step ?_
     refine CTc.yes R ?_ ?_
     ·refine CStep1.ro [1] (fun h => absurd h (by decide)) R R R R (.s 47 R .nil) R (fun _ => (q_loadB R sh39 (i := 0) R R)) <| CT.list (l' := [9, 10, 11, 12, 13, 14]) R <| CT.step ?_
      refine CTc.yes R ?_ ?_
      ·refine CStep1.w [3] (fun h => absurd h (by decide)) R R R R (.s 53 R (.s 55 R .nil)) R (w_callClo (xs := [.tmp 55]) («as» := [AggA [iA ((rd a1.fSlots x43).fTerm.fVar), iA ((rd a1.fSlots x43).fTerm.fAdd)]]) (L := [PtrA [SlcA kInt a2], EqA (.pointer (some ⟨b113, 0, none⟩))]) R ca66 (attribute_Ground_1.con k b113 ((rd a1.fSlots x43).fTerm) a2 y0 t308 ht308) R) ?_
       rintro _ _ ⟨rfl, rfl⟩
       refine CT.list (l' := [10, 11, 12, 13, 14]) R <| CT.step ?_
       refine CTc.yes R ?_ ?_
       ·refine CStep1.p R R R (.s 50 R (.s 52 R (.s 56 R .nil))) R (q_build (is := [0, 1, 2]) (xs := [.tmp 50, .tmp 52, .tmp 56]) (L := [iA ((rd a1.fSlots x43).fNode), iA ((rd a1.fSlots x43).fAttr), iA t308.1.fVar, iA t308.1.fAdd]) R R z113 pl113 R R (.cons (qW R) (.cons (qW R) (.cons (qz _) .nil))) R) <| CT.list (l' := [11, 12, 13, 14]) R <| CT.step ?_
        refine CTc.yes R ?_ ?_
        ·refine CStep1.p R R R (.s 57 R .nil) R (q_lit (kd := kSlot) (ps := [(0, .tmp 57)]) (xs := [.tmp 57]) («as» := [AggA [iA ((rd a1.fSlots x43).fNode), iA ((rd a1.fSlots x43).fAttr), iA t308.1.fVar, iA t308.1.fAdd]]) (ys := [(Slot.mk ((rd a1.fSlots x43).fNode) ((rd a1.fSlots x43).fAttr) t308.1)]) R R el39 R gr113 R R R (.cons (qz _) .nil)) <| CT.list (l' := [12, 13, 14]) R <| CT.step ?_
         refine CTc.yes R ?_ ?_
         ·refine CStep1.w [3] (fun h => absurd h (by decide)) R R R R (.s 48 R (.s 58 R .nil)) R (w_append (kd := kSlot) R el39 R gr113 c309) ?_
          rintro _ _ ⟨v310, rfl, rfl⟩
          refine CT.list (l' := [13, 14]) R <| CT.step ?_
          refine CTc.yes R ?_ ?_
          ·refine CStep1.p R R R (.s 9 R .nil) R (q_fieldP R fo42_1) <| CT.list (l' := [14]) R <| CT.step ?_
           refine CTc.yes R ?_ ?_
           ·refine CStep1.w0 [2] (fun h => absurd h (by decide)) R R R (.s 60 R (.s 59 R .nil)) R (w_store (L := [SlcA kInt t110, SlcA kEdge t111, HdA v310, iA 0, EqA (.slice none 0 0)]) R sh39 (qW R) R R (leB R) R) ?_
            rintro _ _ ⟨rfl, rfl⟩
            refine CT.list (l' := []) R <| CT.nil <| QN.order [3, 0, 0, 0] R ?_
            exact qw (.o4 R (.o4 R (.nil _))) (Kj306 v310 (y2 ++ [(Slot.mk ((rd a1.fSlots x43).fNode) ((rd a1.fSlots x43).fAttr) t308.1)]) t308.2 h)
           exact CTc.end
          refine CTc.no R ?_
          exact CTc.end
         refine CTc.no R <| CTc.no R ?_
         exact CTc.end
        refine CTc.no R <| CTc.no R <| CTc.no R ?_
        exact CTc.end
       refine CTc.no R <| CTc.no R <| CTc.no R <| CTc.no R ?_
       exact CTc.end
      refine CTc.no R <| CTc.no R <| CTc.no R <| CTc.no R <| CTc.no R ?_
      exact CTc.end
     refine CTc.yes R ?_ ?_
     ·refine CStep1.w [3] (fun h => absurd h (by decide)) R R R R (.s 53 R (.s 55 R .nil)) R (w_callClo (xs := [.tmp 55]) («as» := [AggA [iA ((rd a1.fSlots x43).fTerm.fVar), iA ((rd a1.fSlots x43).fTerm.fAdd)]]) (L := [PtrA [SlcA kInt a2], EqA (.pointer (some ⟨b113, 0, none⟩))]) R ca66 (attribute_Ground_1.con k b113 ((rd a1.fSlots x43).fTerm) a2 y0 t308 ht308) R) ?_
      rintro _ _ ⟨rfl, rfl⟩
      refine CT.list (l' := [1, 10, 11, 12, 13, 14]) R <| CT.step ?_
      refine CTc.yes R ?_ ?_
      ·refine CStep1.ro [2] (fun h => absurd h (by decide)) R R R R (.s 47 R .nil) R (fun _ => (q_loadB R sh39 (i := 0) R R)) <| CT.list (l' := [10, 11, 12, 13, 14]) R <| CT.step ?_
       refine CTc.yes R ?_ ?_
       ·refine CStep1.p R R R (.s 50 R (.s 52 R (.s 56 R .nil))) R (q_build (is := [0, 1, 2]) (xs := [.tmp 50, .tmp 52, .tmp 56]) (L := [iA ((rd a1.fSlots x43).fNode), iA ((rd a1.fSlots x43).fAttr), iA t308.1.fVar, iA t308.1.fAdd]) R R z113 pl113 R R (.cons (qW R) (.cons (qW R) (.cons (qz _) .nil))) R) <| CT.list (l' := [11, 12, 13, 14]) R <| CT.step ?_
        refine CTc.yes R ?_ ?_
        ·refine CStep1.p R R R (.s 57 R .nil) R (q_lit (kd := kSlot) (ps := [(0, .tmp 57)]) (xs := [.tmp 57]) («as» := [AggA [iA ((rd a1.fSlots x43).fNode), iA ((rd a1.fSlots x43).fAttr), iA t308.1.fVar, iA t308.1.fAdd]]) (ys := [(Slot.mk ((rd a1.fSlots x43).fNode) ((rd a1.fSlots x43).fAttr) t308.1)]) R R el39 R gr113 R R R (.cons (qz _) .nil)) <| CT.list (l' := [12, 13, 14]) R <| CT.step ?_
         refine CTc.yes R ?_ ?_
         ·refine CStep1.w [3] (fun h => absurd h (by decide)) R R R R (.s 48 R (.s 58 R .nil)) R (w_append (kd := kSlot) R el39 R gr113 c309) ?_
          rintro _ _ ⟨v310, rfl, rfl⟩
          refine CT.list (l' := [13, 14]) R <| CT.step ?_
          refine CTc.yes R ?_ ?_
          ·refine CStep1.p R R R (.s 9 R .nil) R (q_fieldP R fo42_1) <| CT.list (l' := [14]) R <| CT.step ?_
           refine CTc.yes R ?_ ?_
           ·refine CStep1.w0 [1] (fun h => absurd h (by decide)) R R R (.s 60 R (.s 59 R .nil)) R (w_store (L := [SlcA kInt t110, SlcA kEdge t111, HdA v310, iA 0, EqA (.slice none 0 0)]) R sh39 (qW R) R R (leB R) R) ?_
            rintro _ _ ⟨rfl, rfl⟩
            refine CT.list (l' := []) R <| CT.nil <| QN.order [3, 0, 0, 0] R ?_
            exact qw (.o4 R (.o4 R (.nil _))) (Kj306 v310 (y2 ++ [(Slot.mk ((rd a1.fSlots x43).fNode) ((rd a1.fSlots x43).fAttr) t308.1)]) t308.2 h)
           exact CTc.end
          refine CTc.no R ?_
          exact CTc.end
         refine CTc.no R <| CTc.no R ?_
         exact CTc.end
        refine CTc.no R <| CTc.no R <| CTc.no R ?_
        exact CTc.end
       refine CTc.no R <| CTc.no R <| CTc.no R <| CTc.no R ?_
       exact CTc.end
      refine CTc.yes R ?_ ?_
      ·refine CStep1.p R R R (.s 50 R (.s 52 R (.s 56 R .nil))) R (q_build (is := [0, 1, 2]) (xs := [.tmp 50, .tmp 52, .tmp 56]) (L := [iA ((rd a1.fSlots x43).fNode), iA ((rd a1.fSlots x43).fAttr), iA t308.1.fVar, iA t308.1.fAdd]) R R z113 pl113 R R (.cons (qW R) (.cons (qW R) (.cons (qz _) .nil))) R) <| CT.list (l' := [1, 11, 12, 13, 14]) R <| CT.step ?_
       refine CTc.yes R ?_ ?_
       ·refine CStep1.ro [2] (fun h => absurd h (by decide)) R R R R (.s 47 R .nil) R (fun _ => (q_loadB R sh39 (i := 0) R R)) <| CT.list (l' := [11, 12, 13, 14]) R <| CT.step ?_
        refine CTc.yes R ?_ ?_
        ·refine CStep1.p R R R (.s 57 R .nil) R (q_lit (kd := kSlot) (ps := [(0, .tmp 57)]) (xs := [.tmp 57]) («as» := [AggA [iA ((rd a1.fSlots x43).fNode), iA ((rd a1.fSlots x43).fAttr), iA t308.1.fVar, iA t308.1.fAdd]]) (ys := [(Slot.mk ((rd a1.fSlots x43).fNode) ((rd a1.fSlots x43).fAttr) t308.1)]) R R el39 R gr113 R R R (.cons (qz _) .nil)) <| CT.list (l' := [12, 13, 14]) R <| CT.step ?_
         refine CTc.yes R ?_ ?_
         ·refine CStep1.w [3] (fun h => absurd h (by decide)) R R R R (.s 48 R (.s 58 R .nil)) R (w_append (kd := kSlot) R el39 R gr113 c309) ?_
          rintro _ _ ⟨v310, rfl, rfl⟩
          refine CT.list (l' := [13, 14]) R <| CT.step ?_
          refine CTc.yes R ?_ ?_
          ·refine CStep1.p R R R (.s 9 R .nil) R (q_fieldP R fo42_1) <| CT.list (l' := [14]) R <| CT.step ?_
           refine CTc.yes R ?_ ?_
           ·refine CStep1.w0 [1] (fun h => absurd h (by decide)) R R R (.s 60 R (.s 59 R .nil)) R (w_store (L := [SlcA kInt t110, SlcA kEdge t111, HdA v310, iA 0, EqA (.slice none 0 0)]) R sh39 (qW R) R R (leB R) R) ?_
            rintro _ _ ⟨rfl, rfl⟩
            refine CT.list (l' := []) R <| CT.nil <| QN.order [3, 0, 0, 0] R ?_
            exact qw (.o4 R (.o4 R (.nil _))) (Kj306 v310 (y2 ++ [(Slot.mk ((rd a1.fSlots x43).fNode) ((rd a1.fSlots x43).fAttr) t308.1)]) t308.2 h)
           exact CTc.end
          refine CTc.no R ?_
          exact CTc.end
         refine CTc.no R <| CTc.no R ?_
         exact CTc.end
        refine CTc.no R <| CTc.no R <| CTc.no R ?_
        exact CTc.end
       refine CTc.yes R ?_ ?_
       ·refine CStep1.p R R R (.s 57 R .nil) R (q_lit (kd := kSlot) (ps := [(0, .tmp 57)]) (xs := [.tmp 57]) («as» := [AggA [iA ((rd a1.fSlots x43).fNode), iA ((rd a1.fSlots x43).fAttr), iA t308.1.fVar, iA t308.1.fAdd]]) (ys := [(Slot.mk ((rd a1.fSlots x43).fNode) ((rd a1.fSlots x43).fAttr) t308.1)]) R R el39 R gr113 R R R (.cons (qz _) .nil)) <| CT.list (l' := [1, 12, 13, 14]) R <| CT.step ?_
        refine CTc.yes R ?_ ?_
        ·refine CStep1.ro [2] (fun h => absurd h (by decide)) R R R R (.s 47 R .nil) R (fun _ => (q_loadB R sh39 (i := 0) R R)) <| CT.list (l' := [12, 13, 14]) R <| CT.step ?_
         refine CTc.yes R ?_ ?_
         ·refine CStep1.w [3] (fun h => absurd h (by decide)) R R R R (.s 48 R (.s 58 R .nil)) R (w_append (kd := kSlot) R el39 R gr113 c309) ?_
          rintro _ _ ⟨v310, rfl, rfl⟩
          refine CT.list (l' := [13, 14]) R <| CT.step ?_
          refine CTc.yes R ?_ ?_
          ·refine CStep1.p R R R (.s 9 R .nil) R (q_fieldP R fo42_1) <| CT.list (l' := [14]) R <| CT.step ?_
           refine CTc.yes R ?_ ?_
           ·refine CStep1.w0 [1] (fun h => absurd h (by decide)) R R R (.s 60 R (.s 59 R .nil)) R (w_store (L := [SlcA kInt t110, SlcA kEdge t111, HdA v310, iA 0, EqA (.slice none 0 0)]) R sh39 (qW R) R R (leB R) R) ?_
            rintro _ _ ⟨rfl, rfl⟩
            refine CT.list (l' := []) R <| CT.nil <| QN.order [3, 0, 0, 0] R ?_
            exact qw (.o4 R (.o4 R (.nil _))) (Kj306 v310 (y2 ++ [(Slot.mk ((rd a1.fSlots x43).fNode) ((rd a1.fSlots x43).fAttr) t308.1)]) t308.2 h)
           exact CTc.end
          refine CTc.no R ?_
          exact CTc.end
         refine CTc.no R <| CTc.no R ?_
         exact CTc.end
        refine CTc.no R <| CTc.no R <| CTc.no R ?_
        exact CTc.end
       refine CTc.no R <| CTc.no R <| CTc.no R ?_
       exact CTc.end
      refine CTc.no R <| CTc.no R <| CTc.no R <| CTc.no R ?_
      exact CTc.end
     refine CTc.no R <| CTc.no R <| CTc.no R <| CTc.no R <| CTc.no R ?_
     exact CTc.end
   ·refine W.exit <| vq <| vq <| vB <| qq <| qX <| sr <| fd R R fo42_3 R <| ld R R sh40 <| p1 R 63 R (vN R elS40) <| mk_ R <| qx ?_
    refine qq <| vj <| W.to (StTo.boxImp [1] R (.cons (Imp.id _) (.cons (Imp.id _) (.cons (Imp.id _) (.cons (Imp.id _) (.cons Imp.nilHd .nil)))))) <| W.to (StTo.newNil 86 kTest) <| W.order [2, 1, 1, 0, 0] R ?_
    refine W.loop3 (Γ := Value) (fun (_ : Value) (_ : (List Test)) (_ : Bool) (x65 : Int) => [(6, EqA (.pointer (some ⟨b100, 0, none⟩))), (9, EqA (.pointer (some ⟨b112, 0, none⟩))), (10, EqA (.pointer (some ⟨b113, 0, none⟩))), (11, CloA 66 [PtrA [SlcA kInt a2], EqA (.pointer (some ⟨b113, 0, none⟩))]), (63, SlcA kTest a1.fTests), (64, iA (a1.fTests.length : Int)), (65, iA x65)]) (fun (g1 : Value) (y4 : (List Test)) (y0' : Bool) (_ : Int) => [BoxE b100 [EqA (.slice none 0 0), EqA (.slice none 0 0), EqA (.slice none 0 0), iA 0, EqA (.slice none 0 0)], BoxE b112 [SlcA kInt t110, SlcA kEdge t111, HdA g0, iA 0, HdA g1], SlE 113 g0 kSlot y2, SlE 86 g1 kTest y4, BoxE b113 [bA y0']]) h (.slice none 0 0) (.o4 R (.o2 R (.one R (.nil _)))) R (fun rec1 K1 next1 g1 y4 y0' x65 h => ?_)
    unfold attribute_Ground.b1 at h
    refine sr <| p2 R 65 R 64 R (qB R R) <| nt <| qX ?_
    refine qZ h R (fun hb360 h => ?_) (fun hb360 h => ?_)
    ·refine qK <| qq <| qX <| vj <| sr ?_
     obtain ⟨c361, h⟩ := qV h
     refine p2 R 63 R 65 R (vX R el40 R c361.1 c361.2) <| lS R R sh86 R R <| WL.w [] R (qj R) R R .nil (w_alloc R z86 (l := [iA 0, iA 0, iA 0, iA 0, iA 0]) R) ?_
     rintro _ _ ⟨b362, rfl, rfl⟩
     refine WL.w0 [0] R (qj R) R (.s 15 R (.s 68 R .nil)) (w_store (L := [iA ((rd a1.fTests x65).fKind), iA ((rd a1.fTests x65).fLeft.fVar), iA ((rd a1.fTests x65).fLeft.fAdd), iA ((rd a1.fTests x65).fRight.fVar), iA ((rd a1.fTests x65).fRight.fAdd)]) R sh86 (qz _) R R (leB R) R) ?_
     rintro _ _ ⟨rfl, rfl⟩
     refine qx <| QN.to (StTo.still [0] 15 R R) <| qq ?_
     refine W.jn2 (Γ := Value) (fun (_ : Value) (_ : (List Test)) (_ : Bool) => [(6, EqA (.pointer (some ⟨b100, 0, none⟩))), (9, EqA (.pointer (some ⟨b112, 0, none⟩))), (10, EqA (.pointer (some ⟨b113, 0, none⟩))), (11, CloA 66 [PtrA [SlcA kInt a2], EqA (.pointer (some ⟨b113, 0, none⟩))]), (63, SlcA kTest a1.fTests), (64, iA (a1.fTests.length : Int)), (65, iA x65)]) (fun (g371 : Value) (y4' : (List Test)) (y0'' : Bool) => [BoxE b100 [EqA (.slice none 0 0), EqA (.slice none 0 0), EqA (.slice none 0 0), iA 0, EqA (.slice none 0 0)], BoxE b112 [SlcA kInt t110, SlcA kEdge t111, HdA g0, iA 0, HdA g371], SlE 113 g0 kSlot y2, SlE 86 g371 kTest y4', BoxE b113 [bA y0'']]) h (fun g371 y4' y0'' h => ?_) (fun j374 Kj374 h => ?_)
     ·refine vJ <| qq <| qJ ?_
      obtain ⟨c375, h⟩ := qV h
      refine pk R 65 R (vV R c375) <| mv R R <| qx ?_
      exact next1 g371 y4' y0'' (x65 + 1) _ h (.o4 R (.o2 R (.one R (.nil _))))
     ·refine W.drawKT [(0, false), (2, false), (3, false), (4, false), (5, false), (6, false), (8, false), (9, false), (10, false)] [1, 7, 11, 12, 13, 14, 15, 16] [12, 13, 15] 8 [[], [0], [], [2], [], [], [5], [4, 5, 6], [], [], [9], [4, 5, 6, 7, 8, 9, 10], [2, 3, 4, 5, 6, 7, 8, 9, 10, 11], [2, 3, 4, 5, 6, 7, 8, 9, 10, 11, 12], [0, 1, 2, 3, 4, 5, 6, 7, 8, 9, 10, 11, 12, 13], [0, 1, 2, 3, 4, 5, 6, 7, 8, 9, 10, 11, 12, 13, 14], [0, 1, 2, 3, 4, 5, 6, 7, 8, 9, 10, 11, 12, 13, 14, 15]] mx (by kernel_rfl) <| DKT.cons R R (.p R (.s 9 R .nil) R (q_fieldP R fo42_3)) <| DKT.cons R R (.p R (.s 15 R .nil) R (q_field R fo86_0 R)) <| DKT.cons R R (.p R (.s 71 R .nil) R (q_load R sh3)) <| DKT.cons R R (.p R (.s 11 R .nil) R (q_move R)) <| DKT.cons R R (.p R (.s 15 R .nil) R (q_field R fo86_1 R)) <| DKT.cons R R (.p R (.s 74 R .nil) R (q_loadS R sh23 (leB R) R)) ?_
      obtain ⟨t376, ht376, h⟩ := vw h
      refine DKT.cons R R (.p R (.s 11 R .nil) R (q_move R)) <| DKT.cons R R (.p R (.s 15 R .nil) R (q_field R fo86_2 R)) <| DKT.cons R R (.p R (.s 78 R .nil) R (q_loadS R sh23 (leB R) R)) ?_
      obtain ⟨t377, ht377, h⟩ := vw h
      obtain ⟨c378, h⟩ := qV h
      refine DKT.nil <| CT.step ?_
      refine CTc.yes R ?_ ?_
      ·refine CStep1.ro [1] (fun h => absurd h (by decide)) R R R R (.s 69 R .nil) R (fun _ => (q_loadB R sh40 (i := 0) R R)) <| CT.list (l' := [7, 11, 12, 13, 14, 15, 16]) R <| CT.step ?_
       refine CTc.yes R ?_ ?_
       ·refine CStep1.w [4] (fun h => absurd h (by decide)) R R R R (.s 73 R (.s 75 R .nil)) R (w_callClo (xs := [.tmp 75]) («as» := [AggA [iA ((rd a1.fTests x65).fLeft.fVar), iA ((rd a1.fTests x65).fLeft.fAdd)]]) (L := [PtrA [SlcA kInt a2], EqA (.pointer (some ⟨b113, 0, none⟩))]) R ca66 (attribute_Ground_1.con k b113 ((rd a1.fTests x65).fLeft) a2 y0' t376 ht376) R) ?_
        rintro _ _ ⟨rfl, rfl⟩
        refine CT.list (l' := [11, 12, 13, 14, 15, 16]) R <| CT.step ?_
        refine CTc.yes R ?_ ?_
        ·refine CStep1.w [0] (fun h => absurd h (by decide)) R R R R (.s 77 R (.s 79 R .nil)) R (w_callClo (xs := [.tmp 79]) («as» := [AggA [iA ((rd a1.fTests x65).fRight.fVar), iA ((rd a1.fTests x65).fRight.fAdd)]]) (L := [PtrA [SlcA kInt a2], EqA (.pointer (some ⟨b113, 0, none⟩))]) R ca66 (attribute_Ground_1.con k b113 ((rd a1.fTests x65).fRight) a2 t376.2 t377 ht377) R) ?_
         rintro _ _ ⟨rfl, rfl⟩
         refine CT.list (l' := [12, 13, 14, 15, 16]) R <| CT.step ?_
         refine CTc.yes R ?_ ?_
         ·refine CStep1.p R R R (.s 72 R (.s 76 R (.s 80 R .nil))) R (q_build (is := [0, 1, 2]) (xs := [.tmp 72, .tmp 76, .tmp 80]) (L := [iA ((rd a1.fTests x65).fKind), iA t376.1.fVar, iA t376.1.fAdd, iA t377.1.fVar, iA t377.1.fAdd]) R R z86 pl86 R R (.cons (qW R) (.cons (qz _) (.cons (qz _) .nil))) R) <| CT.list (l' := [13, 14, 15, 16]) R <| CT.step ?_
          refine CTc.yes R ?_ ?_
          ·refine CStep1.p R R R (.s 81 R .nil) R (q_lit (kd := kTest) (ps := [(0, .tmp 81)]) (xs := [.tmp 81]) («as» := [AggA [iA ((rd a1.fTests x65).fKind), iA t376.1.fVar, iA t376.1.fAdd, iA t377.1.fVar, iA t377.1.fAdd]]) (ys := [(Test.mk ((rd a1.fTests x65).fKind) t376.1 t377.1)]) R R el40 R gr86 R R R (.cons (qz _) .nil)) <| CT.list (l' := [14, 15, 16]) R <| CT.step ?_
           refine CTc.yes R ?_ ?_
           ·refine CStep1.w [4] (fun h => absurd h (by decide)) R R R R (.s 70 R (.s 82 R .nil)) R (w_append (kd := kTest) R el40 R gr86 c378) ?_
            rintro _ _ ⟨v379, rfl, rfl⟩
            refine CT.list (l' := [15, 16]) R <| CT.step ?_
            refine CTc.yes R ?_ ?_
            ·refine CStep1.p R R R (.s 9 R .nil) R (q_fieldP R fo42_3) <| CT.list (l' := [16]) R <| CT.step ?_
             refine CTc.yes R ?_ ?_
             ·refine CStep1.w0 [2] (fun h => absurd h (by decide)) R R R (.s 84 R (.s 83 R .nil)) R (w_store (L := [SlcA kInt t110, SlcA kEdge t111, HdA g0, iA 0, HdA v379]) R sh40 (qW R) R R (leB R) R) ?_
              rintro _ _ ⟨rfl, rfl⟩
              refine CT.list (l' := []) R <| CT.nil <| QN.order [3, 0, 2, 0, 0] R ?_
              exact qw (.o4 R (.o2 R (.one R (.nil _)))) (Kj374 v379 (y4 ++ [(Test.mk ((rd a1.fTests x65).fKind) t376.1 t377.1)]) t377.2 h)
             exact CTc.end
            refine CTc.no R ?_
            exact CTc.end
           refine CTc.no R <| CTc.no R ?_
           exact CTc.end
          refine CTc.no R <| CTc.no R <| CTc.no R ?_
          exact CTc.end
         refine CTc.no R <| CTc.no R <| CTc.no R <| CTc.no R ?_
         exact CTc.end
        refine CTc.no R <| CTc.no R <| CTc.no R <| CTc.no R <| CTc.no R ?_
        exact CTc.end
       refine CTc.no R <| CTc.no R <| CTc.no R <| CTc.no R <| CTc.no R <| CTc.no R ?_
       exact CTc.end
      refine CTc.yes R ?_ ?_
      ·refine CStep1.w [4] (fun h => absurd h (by decide)) R R R R (.s 73 R (.s 75 R .nil)) R (w_callClo (xs := [.tmp 75]) («as» := [AggA [iA ((rd a1.fTests x65).fLeft.fVar), iA ((rd a1.fTests x65).fLeft.fAdd)]]) (L := [PtrA [SlcA kInt a2], EqA (.pointer (some ⟨b113, 0, none⟩))]) R ca66 (attribute_Ground_1.con k b113 ((rd a1.fTests x65).fLeft) a2 y0' t376 ht376) R) ?_
       rintro _ _ ⟨rfl, rfl⟩
       refine CT.list (l' := [1, 11, 12, 13, 14, 15, 16]) R <| CT.step ?_
       refine CTc.yes R ?_ ?_
       ·refine CStep1.ro [2] (fun h => absurd h (by decide)) R R R R (.s 69 R .nil) R (fun _ => (q_loadB R sh40 (i := 0) R R)) <| CT.list (l' := [11, 12, 13, 14, 15, 16]) R <| CT.step ?_
        refine CTc.yes R ?_ ?_
        ·refine CStep1.w [1] (fun h => absurd h (by decide)) R R R R (.s 77 R (.s 79 R .nil)) R (w_callClo (xs := [.tmp 79]) («as» := [AggA [iA ((rd a1.fTests x65).fRight.fVar), iA ((rd a1.fTests x65).fRight.fAdd)]]) (L := [PtrA [SlcA kInt a2], EqA (.pointer (some ⟨b113, 0, none⟩))]) R ca66 (attribute_Ground_1.con k b113 ((rd a1.fTests x65).fRight) a2 t376.2 t377 ht377) R) ?_
         rintro _ _ ⟨rfl, rfl⟩
         refine CT.list (l' := [12, 13, 14, 15, 16]) R <| CT.step ?_
         refine CTc.yes R ?_ ?_
         ·refine CStep1.p R R R (.s 72 R (.s 76 R (.s 80 R .nil))) R (q_build (is := [0, 1, 2]) (xs := [.tmp 72, .tmp 76, .tmp 80]) (L := [iA ((rd a1.fTests x65).fKind), iA t376.1.fVar, iA t376.1.fAdd, iA t377.1.fVar, iA t377.1.fAdd]) R R z86 pl86 R R (.cons (qW R) (.cons (qz _) (.cons (qz _) .nil))) R) <| CT.list (l' := [13, 14, 15, 16]) R <| CT.step ?_
          refine CTc.yes R ?_ ?_
          ·refine CStep1.p R R R (.s 81 R .nil) R (q_lit (kd := kTest) (ps := [(0, .tmp 81)]) (xs := [.tmp 81]) («as» := [AggA [iA ((rd a1.fTests x65).fKind), iA t376.1.fVar, iA t376.1.fAdd, iA t377.1.fVar, iA t377.1.fAdd]]) (ys := [(Test.mk ((rd a1.fTests x65).fKind) t376.1 t377.1)]) R R el40 R gr86 R R R (.cons (qz _) .nil)) <| CT.list (l' := [14, 15, 16]) R <| CT.step ?_
           refine CTc.yes R ?_ ?_
           ·refine CStep1.w [4] (fun h => absurd h (by decide)) R R R R (.s 70 R (.s 82 R .nil)) R (w_append (kd := kTest) R el40 R gr86 c378) ?_
            rintro _ _ ⟨v379, rfl, rfl⟩
            refine CT.list (l' := [15, 16]) R <| CT.step ?_
            refine CTc.yes R ?_ ?_
            ·refine CStep1.p R R R (.s 9 R .nil) R (q_fieldP R fo42_3) <| CT.list (l' := [16]) R <| CT.step ?_
             refine CTc.yes R ?_ ?_
             ·refine CStep1.w0 [2] (fun h => absurd h (by decide)) R R R (.s 84 R (.s 83 R .nil)) R (w_store (L := [SlcA kInt t110, SlcA kEdge t111, HdA g0, iA 0, HdA v379]) R sh40 (qW R) R R (leB R) R) ?_
              rintro _ _ ⟨rfl, rfl⟩
              refine CT.list (l' := []) R <| CT.nil <| QN.order [3, 0, 2, 0, 0] R ?_
              exact qw (.o4 R (.o2 R (.one R (.nil _)))) (Kj374 v379 (y4 ++ [(Test.mk ((rd a1.fTests x65).fKind) t376.1 t377.1)]) t377.2 h)
             exact CTc.end
            refine CTc.no R ?_
            exact CTc.end
           refine CTc.no R <| CTc.no R ?_
           exact CTc.end
          refine CTc.no R <| CTc.no R <| CTc.no R ?_
          exact CTc.end
         refine CTc.no R <| CTc.no R <| CTc.no R <| CTc.no R ?_
         exact CTc.end
        refine CTc.no R <| CTc.no R <| CTc.no R <| CTc.no R <| CTc.no R ?_
        exact CTc.end
       refine CTc.yes R ?_ ?_
       ·refine CStep1.w [0] (fun h => absurd h (by decide)) R R R R (.s 77 R (.s 79 R .nil)) R (w_callClo (xs := [.tmp 79]) («as» := [AggA [iA ((rd a1.fTests x65).fRight.fVar), iA ((rd a1.fTests x65).fRight.fAdd)]]) (L := [PtrA [SlcA kInt a2], EqA (.pointer (some ⟨b113, 0, none⟩))]) R ca66 (attribute_Ground_1.con k b113 ((rd a1.fTests x65).fRight) a2 t376.2 t377 ht377) R) ?_
        rintro _ _ ⟨rfl, rfl⟩
        refine CT.list (l' := [1, 12, 13, 14, 15, 16]) R <| CT.step ?_
        refine CTc.yes R ?_ ?_
        ·refine CStep1.ro [2] (fun h => absurd h (by decide)) R R R R (.s 69 R .nil) R (fun _ => (q_loadB R sh40 (i := 0) R R)) <| CT.list (l' := [12, 13, 14, 15, 16]) R <| CT.step ?_
         refine CTc.yes R ?_ ?_
         ·refine CStep1.p R R R (.s 72 R (.s 76 R (.s 80 R .nil))) R (q_build (is := [0, 1, 2]) (xs := [.tmp 72, .tmp 76, .tmp 80]) (L := [iA ((rd a1.fTests x65).fKind), iA t376.1.fVar, iA t376.1.fAdd, iA t377.1.fVar, iA t377.1.fAdd]) R R z86 pl86 R R (.cons (qW R) (.cons (qz _) (.cons (qz _) .nil))) R) <| CT.list (l' := [13, 14, 15, 16]) R <| CT.step ?_
          refine CTc.yes R ?_ ?_
          ·refine CStep1.p R R R (.s 81 R .nil) R (q_lit (kd := kTest) (ps := [(0, .tmp 81)]) (xs := [.tmp 81]) («as» := [AggA [iA ((rd a1.fTests x65).fKind), iA t376.1.fVar, iA t376.1.fAdd, iA t377.1.fVar, iA t377.1.fAdd]]) (ys := [(Test.mk ((rd a1.fTests x65).fKind) t376.1 t377.1)]) R R el40 R gr86 R R R (.cons (qz _) .nil)) <| CT.list (l' := [14, 15, 16]) R <| CT.step ?_
           refine CTc.yes R ?_ ?_
           ·refine CStep1.w [4] (fun h => absurd h (by decide)) R R R R (.s 70 R (.s 82 R .nil)) R (w_append (kd := kTest) R el40 R gr86 c378) ?_
            rintro _ _ ⟨v379, rfl, rfl⟩
            refine CT.list (l' := [15, 16]) R <| CT.step ?_
            refine CTc.yes R ?_ ?_
            ·refine CStep1.p R R R (.s 9 R .nil) R (q_fieldP R fo42_3) <| CT.list (l' := [16]) R <| CT.step ?_
             refine CTc.yes R ?_ ?_
             ·refine CStep1.w0 [1] (fun h => absurd h (by decide)) R R R (.s 84 R (.s 83 R .nil)) R (w_store (L := [SlcA kInt t110, SlcA kEdge t111, HdA g0, iA 0, HdA v379]) R sh40 (qW R) R R (leB R) R) ?_
              rintro _ _ ⟨rfl, rfl⟩
              refine CT.list (l' := []) R <| CT.nil <| QN.order [3, 0, 2, 0, 0] R ?_
              exact qw (.o4 R (.o2 R (.one R (.nil _)))) (Kj374 v379 (y4 ++ [(Test.mk ((rd a1.fTests x65).fKind) t376.1 t377.1)]) t377.2 h)
             exact CTc.end
            refine CTc.no R ?_
            exact CTc.end
           refine CTc.no R <| CTc.no R ?_
           exact CTc.end
          refine CTc.no R <| CTc.no R <| CTc.no R ?_
          exact CTc.end
         refine CTc.no R <| CTc.no R <| CTc.no R <| CTc.no R ?_
         exact CTc.end
        refine CTc.yes R ?_ ?_
        ·refine CStep1.p R R R (.s 72 R (.s 76 R (.s 80 R .nil))) R (q_build (is := [0, 1, 2]) (xs := [.tmp 72, .tmp 76, .tmp 80]) (L := [iA ((rd a1.fTests x65).fKind), iA t376.1.fVar, iA t376.1.fAdd, iA t377.1.fVar, iA t377.1.fAdd]) R R z86 pl86 R R (.cons (qW R) (.cons (qz _) (.cons (qz _) .nil))) R) <| CT.list (l' := [1, 13, 14, 15, 16]) R <| CT.step ?_
         refine CTc.yes R ?_ ?_
         ·refine CStep1.ro [2] (fun h => absurd h (by decide)) R R R R (.s 69 R .nil) R (fun _ => (q_loadB R sh40 (i := 0) R R)) <| CT.list (l' := [13, 14, 15, 16]) R <| CT.step ?_
          refine CTc.yes R ?_ ?_
          ·refine CStep1.p R R R (.s 81 R .nil) R (q_lit (kd := kTest) (ps := [(0, .tmp 81)]) (xs := [.tmp 81]) («as» := [AggA [iA ((rd a1.fTests x65).fKind), iA t376.1.fVar, iA t376.1.fAdd, iA t377.1.fVar, iA t377.1.fAdd]]) (ys := [(Test.mk ((rd a1.fTests x65).fKind) t376.1 t377.1)]) R R el40 R gr86 R R R (.cons (qz _) .nil)) <| CT.list (l' := [14, 15, 16]) R <| CT.step ?_
           refine CTc.yes R ?_ ?_
           ·refine CStep1.w [4] (fun h => absurd h (by decide)) R R R R (.s 70 R (.s 82 R .nil)) R (w_append (kd := kTest) R el40 R gr86 c378) ?_
            rintro _ _ ⟨v379, rfl, rfl⟩
            refine CT.list (l' := [15, 16]) R <| CT.step ?_
            refine CTc.yes R ?_ ?_
            ·refine CStep1.p R R R (.s 9 R .nil) R (q_fieldP R fo42_3) <| CT.list (l' := [16]) R <| CT.step ?_
             refine CTc.yes R ?_ ?_
             ·refine CStep1.w0 [1] (fun h => absurd h (by decide)) R R R (.s 84 R (.s 83 R .nil)) R (w_store (L := [SlcA kInt t110, SlcA kEdge t111, HdA g0, iA 0, HdA v379]) R sh40 (qW R) R R (leB R) R) ?_
              rintro _ _ ⟨rfl, rfl⟩
              refine CT.list (l' := []) R <| CT.nil <| QN.order [3, 0, 2, 0, 0] R ?_
              exact qw (.o4 R (.o2 R (.one R (.nil _)))) (Kj374 v379 (y4 ++ [(Test.mk ((rd a1.fTests x65).fKind) t376.1 t377.1)]) t377.2 h)
             exact CTc.end
            refine CTc.no R ?_
            exact CTc.end
           refine CTc.no R <| CTc.no R ?_
           exact CTc.end
          refine CTc.no R <| CTc.no R <| CTc.no R ?_
          exact CTc.end
         refine CTc.yes R ?_ ?_
         ·refine CStep1.p R R R (.s 81 R .nil) R (q_lit (kd := kTest) (ps := [(0, .tmp 81)]) (xs := [.tmp 81]) («as» := [AggA [iA ((rd a1.fTests x65).fKind), iA t376.1.fVar, iA t376.1.fAdd, iA t377.1.fVar, iA t377.1.fAdd]]) (ys := [(Test.mk ((rd a1.fTests x65).fKind) t376.1 t377.1)]) R R el40 R gr86 R R R (.cons (qz _) .nil)) <| CT.list (l' := [1, 14, 15, 16]) R <| CT.step ?_
          refine CTc.yes R ?_ ?_
          ·refine CStep1.ro [2] (fun h => absurd h (by decide)) R R R R (.s 69 R .nil) R (fun _ => (q_loadB R sh40 (i := 0) R R)) <| CT.list (l' := [14, 15, 16]) R <| CT.step ?_
           refine CTc.yes R ?_ ?_
           ·refine CStep1.w [4] (fun h => absurd h (by decide)) R R R R (.s 70 R (.s 82 R .nil)) R (w_append (kd := kTest) R el40 R gr86 c378) ?_
            rintro _ _ ⟨v379, rfl, rfl⟩
            refine CT.list (l' := [15, 16]) R <| CT.step ?_
            refine CTc.yes R ?_ ?_
            ·refine CStep1.p R R R (.s 9 R .nil) R (q_fieldP R fo42_3) <| CT.list (l' := [16]) R <| CT.step ?_
             refine CTc.yes R ?_ ?_
             ·refine CStep1.w0 [1] (fun h => absurd h (by decide)) R R R (.s 84 R (.s 83 R .nil)) R (w_store (L := [SlcA kInt t110, SlcA kEdge t111, HdA g0, iA 0, HdA v379]) R sh40 (qW R) R R (leB R) R) ?_
              rintro _ _ ⟨rfl, rfl⟩
              refine CT.list (l' := []) R <| CT.nil <| QN.order [3, 0, 2, 0, 0] R ?_
              exact qw (.o4 R (.o2 R (.one R (.nil _)))) (Kj374 v379 (y4 ++ [(Test.mk ((rd a1.fTests x65).fKind) t376.1 t377.1)]) t377.2 h)
             exact CTc.end
            refine CTc.no R ?_
            exact CTc.end
           refine CTc.no R <| CTc.no R ?_
           exact CTc.end
          refine CTc.no R <| CTc.no R <| CTc.no R ?_
          exact CTc.end
         refine CTc.no R <| CTc.no R <| CTc.no R ?_
         exact CTc.end
        refine CTc.no R <| CTc.no R <| CTc.no R <| CTc.no R ?_
        exact CTc.end
       refine CTc.no R <| CTc.no R <| CTc.no R <| CTc.no R <| CTc.no R ?_
       exact CTc.end
      refine CTc.no R <| CTc.no R <| CTc.no R <| CTc.no R <| CTc.no R <| CTc.no R ?_
      exact CTc.end
    ·refine W.exit <| vq <| vq <| vB <| qq <| qX <| sr <| WL.q (qj R) R R (.s 10 R .nil) (q_loadB R sh4 (i := 4) R R) <| p1 R 86 R (q_not R) <| qx <| qw (env' := [(87, _), (9, _), (6, _)]) (.o2 R (.one R (.nil _))) <| qq ?_
     refine qZ h R (fun hb380 h => ?_) (fun hb380 h => ?_)
     ·refine sr <| WL.p R R R .nil (q_build (is := []) (xs := []) (L := [EqA (.slice none 0 0), EqA (.slice none 0 0), EqA (.slice none 0 0), iA 0, EqA (.slice none 0 0)]) R R z42 pl42 R R .nil R) <| WL.w0 [0] R (qj R) R (.s 6 R (.s 88 R .nil)) (w_store (L := [EqA (.slice none 0 0), EqA (.slice none 0 0), EqA (.slice none 0 0), iA 0, EqA (.slice none 0 0)]) R sh42 (qz _) R R (leB R) R) ?_
      rintro _ _ ⟨rfl, rfl⟩
      refine ak R <| nt <| qN <| qy ?_
      cases h
      exact QR.f2 R R (.cs (i := 0) R sh42 R R) (.t R) (.imp (Imp.tup (.cons (Imp.agg (.cons (Imp.nil kInt) (.cons (Imp.nil kEdge) (.cons (Imp.nil kSlot) (.cons (Imp.id _) (.cons (Imp.nil kTest) .nil)))))) (.cons (Imp.id _) .nil))))
     ·refine qK <| qq <| sr <| WL.q (qj R) R R (.s 9 R .nil) (q_loadBS (l' := [SlcA kInt t110, SlcA kEdge t111, HdA g0, iA 0, HdA g1]) R sh42 (i := 1) R R R) <| WL.w0 [0] R (qj R) R (.s 6 R (.s 89 R .nil)) (w_store (L := [SlcA kInt t110, SlcA kEdge t111, HdA g0, iA 0, HdA g1]) R sh42 (qz _) R R (leB R) R) ?_
      rintro _ _ ⟨rfl, rfl⟩
      refine ak R <| nt <| qN ?_
      cases h
      exact QR.f2 R R (.cs (i := 0) R sh42 R R) (.t R) (.tup (.cons (.agg (.cons (.id _) (.cons (.id _) (.cons (.slc 2 R) (.cons (.id _) (.cons (.slc 3 R) .nil)))))) (.cons (.id _) .nil)))
end Go.Proofs.YtcgdfjpeboiioaaGreat
