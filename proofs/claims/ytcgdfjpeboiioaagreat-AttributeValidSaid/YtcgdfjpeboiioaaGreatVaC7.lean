import Derived.Test.YtcgdfjpeboiioaaGreatVaC6
namespace Go.Proofs.YtcgdfjpeboiioaaGreat
open Go Go.Abs
attribute [local irreducible] Tryz.prog
theorem ref21_SameMatches.con (k : Nat) (a0 : (List Match)) (a1 : (List Match)) (r : Bool) (h : ref21_SameMatches k a0 a1 = some r) : Con Tryz.prog 31 [] [SlcA kMatch a0, SlcA kMatch a1] (RA (bA r)) := by
 unfold ref21_SameMatches at h
 refine vJ (N := 27) Tryz.func31 R R R fun w0_ fg_ => sr <| ak R <| nt <| qX <| sr <| mv R R <| p1 R 6 R (vN R elS71) <| mv R R <| p1 R 8 R (vN R elS71) ?_
 refine p2 R 7 R 9 R (qN R R) <| nt ?_
 refine qZ h R (fun hb100 h => ?_) (fun hb100 h => ?_)
 ·refine sr <| ak R <| qx <| qw (env' := [(4, _)]) (.one R (.nil _)) <| qq <| vq <| qQ ?_
  cases h
  exact vW R R (.t R) (.id _)
 ·refine qB <| qq <| qX <| sr <| ak R <| nt <| vx ?_
  refine W.loop1 (Γ := Unit) (fun (_ : Unit) (x5 : Int) => [(0, SlcA kMatch a0), (1, SlcA kMatch a1), (5, iA x5)]) (fun (_ : Unit) (_ : Int) => []) h () (.o2 R (.one R (.nil _))) R (fun rec0 K0 next0 _ x5 h => ?_)
  unfold ref21_SameMatches.b0 at h
  refine qX <| sr <| mv R R <| mv R R <| p1 R 12 R (vN R elS71) <| p2 R 11 R 13 R (qN R R) <| nt ?_
  refine qZ h R (fun hb125 h => ?_) (fun hb125 h => ?_)
  ·refine qB <| qq <| qX <| vx <| qX <| W.drawK [(0, false), (1, false), (2, false), (3, false), (4, false), (5, false), (6, false), (7, false), (8, false), (9, false)] [] (bm [0, 0, 3, 7, 0, 0, 48, 112, 255, 511]) mx (by kernel_rfl) <| dm R R R <| dm R R R ?_
   obtain ⟨c132, h⟩ := qK h
   refine qz R R (.p R (.s 17 R (.s 18 R .nil)) R (vX R el71 R c132.1 c132.2)) <| qz R R (.p R (.s 19 R .nil) R (q_loadS R sh76 (leB R) R)) <| dm R R R <| dm R R R ?_
   obtain ⟨c133, h⟩ := qK h
   refine qz R R (.p R (.s 21 R (.s 22 R .nil)) R (vX R el71 R c133.1 c133.2)) <| qz R R (.p R (.s 23 R .nil) R (q_loadS R sh76 (leB R) R)) ?_
   obtain ⟨t134, ht134, h⟩ := vw h
   refine qz R R (.p R (.s 20 R (.s 24 R .nil)) R (vy (f := 80) (A := bA t134) (xs := [.tmp 20, .tmp 24]) («as» := [AggA [SlcA kInt ((rd a0 x5).fMorphism.fNodes), SlcA kInt ((rd a0 x5).fMorphism.fEdges), SlcA kInt ((rd a0 x5).fVars)], AggA [SlcA kInt ((rd a1 x5).fMorphism.fNodes), SlcA kInt ((rd a1 x5).fMorphism.fEdges), SlcA kInt ((rd a1 x5).fVars)]]) R ca80 (ref21_SameMatch.con k (rd a0 x5) (rd a1 x5) t134 ht134) R)) <| qz R R (.p R (.s 25 R .nil) R (q_not R)) <| DK.nil <| CSteps.nil <| qw (env' := [(26, _), (5, _), (1, _), (0, _)]) (.o4 R (.nil _)) <| qq ?_
   refine qZ h R (fun hb135 h => ?_) (fun hb135 h => ?_)
   ·refine sr <| ak R <| nt <| vq <| vz <| qQ <| qQ <| vz <| qQ ?_
    cases h
    exact vW R R (.t R) (.id _)
   ·refine qB <| vZ <| qq <| qJ <| mv R R ?_
    obtain ⟨c136, h⟩ := qK h
    refine pk R 15 R (vK R c136) <| av R R <| qx ?_
    exact next0 () (x5 + 1) _ h (.o2 R (.one R (.nil _)))
  ·refine W.exit <| qV <| qV <| vB <| qw (env' := []) (.nil _) <| qq <| sr <| ak R <| nt <| vq ?_
   cases h
   exact vW R R (.t R) (.id _)
theorem law21_awake.con (k : Nat) (r : Bool) (h : law21_awake k = some r) : Con Tryz.prog 9 [] [] (RA (bA r)) := by
 unfold law21_awake at h
 refine vJ (N := 44) Tryz.func9 R R R fun w0_ fg_ => sr <| ak R <| nx ?_
 obtain ⟨t100, ht100, h⟩ := vw h
 refine WL.p R R R .nil (vy (f := 37) (A := AggA [SlcA kNodeType t100.fNodes, SlcA kEdgeType t100.fEdges]) (xs := []) («as» := []) R ca37 (ref04_Example.con k  t100 ht100) R) <| WL.p R R R (.k .nil) (q_build (is := [0]) (xs := [.const (.int .i64 0)]) (L := [iA 0, iA 0]) R R z23 pl23 R R (.cons (qW R) .nil) R) <| WL.p R R R (.k (.k .nil)) (q_build (is := [0, 1]) (xs := [.const (.int .i64 1), .const (.int .i64 4)]) (L := [iA 1, iA 4]) R R z23 pl23 R R (.cons (qW R) (.cons (qW R) .nil)) R) <| WL.p R R R (.k (.s 7 R (.s 8 R .nil))) (q_build (is := [0, 1, 2]) (xs := [.const (.int .i64 1), .tmp 7, .tmp 8]) (L := [iA 1, iA 0, iA 0, iA 1, iA 4]) R R z86 pl86 R R (.cons (qW R) (.cons (qy _) (.cons (qy _) .nil))) R) ?_
 obtain ⟨t101, ht101, h⟩ := vw h
 refine p1 R 9 R (vy (f := 38) (A := AggA [SlcA kInt t101.fGraph.fNodes, SlcA kEdge t101.fGraph.fEdges, SlcA kSlot t101.fSlots, iA t101.fVars, SlcA kTest t101.fTests]) (xs := [.tmp 9]) («as» := [AggA [iA 1, iA 0, iA 0, iA 1, iA 4]]) R ca38 (law21_two.con k (Test.mk 1 (Term.mk 0 0) (Term.mk 1 4)) t101 ht101) R) ?_
 obtain ⟨t102, ht102, h⟩ := vw h
 refine WL.p R R R .nil (vy (f := 39) (A := AggA [SlcA kInt t102.fGraph.fNodes, SlcA kEdge t102.fGraph.fEdges, SlcA (kSl kInt) t102.fValues]) (xs := []) («as» := []) R ca39 (law21_bank.con k  t102 ht102) R) ?_
 obtain ⟨t103, ht103, h⟩ := vw h
 refine WL.p R R R (.s 6 R (.s 10 R (.s 11 R (.k .nil)))) (vy (f := 29) (A := TupA [SlcA kMatch t103.1, iA t103.2]) (xs := [.tmp 6, .tmp 10, .tmp 11, .const (.bool true)]) («as» := [AggA [SlcA kNodeType t100.fNodes, SlcA kEdgeType t100.fEdges], AggA [SlcA kInt t101.fGraph.fNodes, SlcA kEdge t101.fGraph.fEdges, SlcA kSlot t101.fSlots, iA t101.fVars, SlcA kTest t101.fTests], AggA [SlcA kInt t102.fGraph.fNodes, SlcA kEdge t102.fGraph.fEdges, SlcA (kSl kInt) t102.fValues], bA true]) R ca29 (attribute_Matches.con k t100 t101 t102 true t103 ht103) R) <| mv R R <| p1 R 5 R (vV R R) <| p1 R 5 R (vV R R) <| av R R <| av R R <| qx <| qw (env' := [(2, _), (1, _)]) (.o2 R (.nil _)) <| qq <| sr ?_
 obtain ⟨t104, ht104, h⟩ := vw h
 refine WL.p R R R .nil (vy (f := 37) (A := AggA [SlcA kNodeType t104.fNodes, SlcA kEdgeType t104.fEdges]) (xs := []) («as» := []) R ca37 (ref04_Example.con k  t104 ht104) R) <| WL.p R R R (.k (.k .nil)) (q_build (is := [0, 1]) (xs := [.const (.int .i64 (-1)), .const (.int .i64 2000)]) (L := [iA (-1), iA 2000]) R R z23 pl23 R R (.cons (qW R) (.cons (qW R) .nil)) R) <| WL.p R R R (.k .nil) (q_build (is := [0]) (xs := [.const (.int .i64 0)]) (L := [iA 0, iA 0]) R R z23 pl23 R R (.cons (qW R) .nil) R) <| WL.p R R R (.k (.s 17 R (.s 18 R .nil))) (q_build (is := [0, 1, 2]) (xs := [.const (.int .i64 1), .tmp 17, .tmp 18]) (L := [iA 1, iA (-1), iA 2000, iA 0, iA 0]) R R z86 pl86 R R (.cons (qW R) (.cons (qy _) (.cons (qy _) .nil))) R) ?_
 obtain ⟨t105, ht105, h⟩ := vw h
 refine p1 R 19 R (vy (f := 38) (A := AggA [SlcA kInt t105.fGraph.fNodes, SlcA kEdge t105.fGraph.fEdges, SlcA kSlot t105.fSlots, iA t105.fVars, SlcA kTest t105.fTests]) (xs := [.tmp 19]) («as» := [AggA [iA 1, iA (-1), iA 2000, iA 0, iA 0]]) R ca38 (law21_two.con k (Test.mk 1 (Term.mk (-1) 2000) (Term.mk 0 0)) t105 ht105) R) ?_
 obtain ⟨t106, ht106, h⟩ := vw h
 refine p2 R 16 R 20 R (vy (f := 15) (A := TupA [SlcA kUse t106.1, iA t106.2]) (xs := [.tmp 16, .tmp 20]) («as» := [AggA [SlcA kNodeType t104.fNodes, SlcA kEdgeType t104.fEdges], AggA [SlcA kInt t105.fGraph.fNodes, SlcA kEdge t105.fGraph.fEdges, SlcA kSlot t105.fSlots, iA t105.fVars, SlcA kTest t105.fTests]]) R ca15 (attribute_Contradiction.con k t104 t105 t106 ht106) R) <| mv R R <| p1 R 15 R (vV R R) <| p1 R 15 R (vV R R) <| av R R <| av R R <| qx <| qw (env' := [(4, _), (3, _), (2, _), (1, _)]) (.o4 R (.nil _)) <| qq <| qX ?_
 refine W.jn1 (Γ := Unit) (fun (_ : Unit) (x0 : Bool) => [(0, bA x0)]) (fun (_ : Unit) (_ : Bool) => []) h (fun _ x0 h => ?_) (fun j112 Kj112 h => ?_)
 ·refine qq <| vq ?_
  cases h
  exact vW R R (.t R) (.id _)
 ·refine qJ <| mv R R <| pk R 24 R (qN R R) <| mv R R ?_
  rcases bif_s h with ⟨hb113, h⟩ | ⟨hb113, h⟩
  ·refine wm R R R hb113 R R <| wq R R R hb113 (.k (.k .nil)) (q_lit (kd := kInt) (ps := [(0, .const (.int .i64 2)), (1, .const (.int .i64 1))]) (xs := [.const (.int .i64 2), .const (.int .i64 1)]) («as» := [iA 2, iA 1]) (ys := [2, 1]) R R el26 R gr3 R R R (.cons (qW R) (.cons (qW R) .nil))).o <| wq R R R hb113 (.s 28 R .nil) (q_build (is := [0]) (xs := [.tmp 28]) (L := [SlcA kInt [2, 1], EqA (.slice none 0 0)]) R R z64 pl64 R R (.cons (qW R) .nil) R).o <| wq R R R hb113 (.k (.k .nil)) (q_lit (kd := kInt) (ps := [(0, .const (.int .i64 5)), (1, .const (.int .i64 10))]) (xs := [.const (.int .i64 5), .const (.int .i64 10)]) («as» := [iA 5, iA 10]) (ys := [5, 10]) R R el26 R gr3 R R R (.cons (qW R) (.cons (qW R) .nil))).o <| wq R R R hb113 (.s 29 R (.s 30 R .nil)) (q_build (is := [0, 1]) (xs := [.tmp 29, .tmp 30]) (L := [SlcA kInt [2, 1], EqA (.slice none 0 0), SlcA kInt [5, 10]]) R R z76 pl76 R R (.cons (qy _) (.cons (qW R) .nil)) R).o <| wq R R R hb113 (.s 31 R .nil) (QS.args (q_lit (kd := kMatch) (ps := [(0, .tmp 31)]) (xs := [.tmp 31]) («as» := [AggA [SlcA kInt [2, 1], SlcA kInt [], SlcA kInt [5, 10]]]) (ys := [(Match.mk (Morphism.mk [2, 1] []) [5, 10])]) R R el71 R gr76 R R R (.cons (qy _) .nil)) (.cons (Imp.agg (.cons (Imp.id _) (.cons (Imp.nil kInt) (.cons (Imp.id _) .nil)))) .nil)).o ?_
   obtain ⟨t114, ht114, h⟩ := vw h
   refine wq R R R hb113 (.s 27 R (.s 32 R .nil)) (vy (f := 31) (A := bA t114) (xs := [.tmp 27, .tmp 32]) («as» := [SlcA kMatch t103.1, SlcA kMatch ([(Match.mk (Morphism.mk [2, 1] []) [5, 10])])]) R ca31 (ref21_SameMatches.con k t103.1 ([(Match.mk (Morphism.mk [2, 1] []) [5, 10])]) t114 ht114) R).o <| p2 R 26 R 33 R (vQ R hb113) <| mv R R ?_
   rcases bif_s h with ⟨hb115, h⟩ | ⟨hb115, h⟩
   ·refine wm R R R hb115 R R <| wq R R R hb115 (.s 36 R (.k .nil)) (qN R R).o <| p2 R 35 R 37 R (vQ R hb115) <| mv R R ?_
    rcases bif_s h with ⟨hb116, h⟩ | ⟨hb116, h⟩
    ·refine wm R R R hb116 R R <| wq R R R hb116 (.s 40 R .nil) (vN R elS45).o <| wq R R R hb116 (.s 41 R (.k .nil)) (qN R R).o <| p2 R 39 R 42 R (vQ R hb116) <| av R R <| qx ?_
     exact qw (.one R (.nil _)) (Kj112 () ((t106.1.length : Int) == 2) h)
    ·refine sk R R R hb116 <| sk R R R hb116 <| sk R R R hb116 <| pk R 39 R (vj R hb116) <| av R R <| qx ?_
     exact qw (.one R (.nil _)) (Kj112 () false h)
   ·refine sk R R R hb115 <| sk R R R hb115 <| pk R 35 R (vj R hb115) <| mv R R <| sk R R R R <| sk R R R R <| sk R R R R <| pk R 39 R (vj R R) <| av R R <| qx ?_
    exact qw (.one R (.nil _)) (Kj112 () false h)
  ·refine sk R R R hb113 <| sk R R R hb113 <| sk R R R hb113 <| sk R R R hb113 <| sk R R R hb113 <| sk R R R hb113 <| sk R R R hb113 <| pk R 26 R (vj R hb113) <| mv R R <| sk R R R R <| sk R R R R <| pk R 35 R (vj R R) <| mv R R ?_
   refine sk R R R R <| sk R R R R <| sk R R R R <| pk R 39 R (vj R R) <| av R R <| qx ?_
   exact qw (.one R (.nil _)) (Kj112 () false h)
theorem ref04_Few.con (k : Nat) (a0 : Types) (r : Bool) (h : ref04_Few k a0 = some r) : Con Tryz.prog 13 [] [AggA [SlcA kNodeType a0.fNodes, SlcA kEdgeType a0.fEdges]] (RA (bA r)) := by
 unfold ref04_Few at h
 refine vJ (N := 106) Tryz.func13 R R R fun w0_ fg_ => sr <| p1 R 0 R (q_box R (qy _)) <| ak R <| nt <| qX <| qX ?_
 refine W.jn1 (Γ := Unit) (fun (_ : Unit) (x18 : Bool) => [(1, PtrA [SlcA kNodeType a0.fNodes, SlcA kEdgeType a0.fEdges]), (18, bA x18)]) (fun (_ : Unit) (_ : Bool) => []) h (fun _ x18 h => ?_) (fun j102 Kj102 h => ?_)
 ·refine qq ?_
  refine qZ h R (fun hb103 h => ?_) (fun hb103 h => ?_)
  ·refine sr <| ak R <| nt <| vq <| qQ ?_
   cases h
   exact vW R R (.t R) (.id _)
  ·refine qB <| qq <| sr <| ak R <| nt <| qX <| sr <| ak R <| nt ?_
   refine vx ?_
   refine W.loop2 (Γ := Unit) (fun (_ : Unit) (x3 : Int) (x4 : Int) => [(1, PtrA [SlcA kNodeType a0.fNodes, SlcA kEdgeType a0.fEdges]), (3, iA x3), (4, iA x4)]) (fun (_ : Unit) (_ : Int) (_ : Int) => []) h () (.o2 R (.one R (.nil _))) R (fun rec0 K0 next0 _ x3 x4 h => ?_)
   unfold ref04_Few.b0 at h
   refine qX <| sr <| mv R R <| fd R R fo35_0 R <| ld R R sh32 <| p1 R 21 R (vN R elS32) <| p2 R 19 R 22 R (qN R R) <| nt ?_
   refine qZ h R (fun hb304 h => ?_) (fun hb304 h => ?_)
   ·refine qB <| qq <| qX <| vx <| sr <| mv R R <| fd R R fo35_0 R <| ld R R sh32 <| mv R R ?_
    obtain ⟨c305, h⟩ := qK h
    refine p2 R 28 R 29 R (vX R el32 R c305.1 c305.2) <| fd R R fo92_3 R <| ld R R sh90 <| p1 R 32 R (vN R elS90) ?_
    obtain ⟨c306, h⟩ := qK h
    refine p2 R 26 R 33 R (vK R c306) <| av R R <| qx <| qw (env' := [(3, _), (4, _), (1, _)]) (.o2 R (.one R (.nil _))) <| qq <| qX <| qX ?_
    refine W.jn1 (Γ := Unit) (fun (_ : Unit) (x46 : Bool) => [(1, PtrA [SlcA kNodeType a0.fNodes, SlcA kEdgeType a0.fEdges]), (4, iA x4), (3, iA (x3 + (((rd a0.fNodes x4).fAttrs).length : Int))), (46, bA x46)]) (fun (_ : Unit) (_ : Bool) => []) h (fun _ x46 h => ?_) (fun j310 Kj310 h => ?_)
    ·refine qq ?_
     refine qZ h R (fun hb311 h => ?_) (fun hb311 h => ?_)
     ·refine sr <| ak R <| nt <| vq <| qQ <| vz <| qQ <| qQ <| vz <| qQ ?_
      cases h
      exact vW R R (.t R) (.id _)
     ·refine qB <| qq <| sr <| ak R <| nt <| vx ?_
      refine W.loop1 (Γ := Unit) (fun (_ : Unit) (x5 : Int) => [(1, PtrA [SlcA kNodeType a0.fNodes, SlcA kEdgeType a0.fEdges]), (4, iA x4), (3, iA (x3 + (((rd a0.fNodes x4).fAttrs).length : Int))), (5, iA x5)]) (fun (_ : Unit) (_ : Int) => []) h () (.o4 R (.nil _)) R (fun rec1 K1 next1 _ x5 h => ?_)
      unfold ref04_Few.b1 at h
      refine qX <| sr <| mv R R <| fd R R fo35_0 R <| ld R R sh32 <| mv R R ?_
      obtain ⟨c364, h⟩ := qK h
      refine p2 R 49 R 50 R (vX R el32 R c364.1 c364.2) <| fd R R fo92_3 R <| ld R R sh90 <| p1 R 53 R (vN R elS90) <| p2 R 47 R 54 R (qN R R) <| qx <| qw (env' := [(55, _), (5, _), (3, _), (4, _), (1, _)]) (.o4 R (.one R (.nil _))) <| qq ?_
      refine qZ h R (fun hb365 h => ?_) (fun hb365 h => ?_)
      ·refine qB <| qq <| qX <| vx <| sr <| fd R R fo35_0 R <| ld R R sh32 <| mv R R ?_
       obtain ⟨c366, h⟩ := qK h
       refine p2 R 59 R 60 R (vX R el32 R c366.1 c366.2) <| fd R R fo92_3 R <| ld R R sh90 <| mv R R ?_
       obtain ⟨c367, h⟩ := qK h
       refine p2 R 63 R 64 R (vX R el90 R c367.1 c367.2) <| lS R R sh95 R R <| WL.w [] R (qj R) R R .nil (w_alloc R z95 (l := [EqA (strV ([] : Str)), iA 0, iA 0, EqA (.slice none 0 0)]) R) ?_
       rintro _ _ ⟨b368, rfl, rfl⟩
       refine WL.w0 [0] R (qj R) R (.s 6 R (.s 66 R .nil)) (w_store (L := [EqA (strV ((rd ((rd a0.fNodes x4).fAttrs) x5).fName)), iA ((rd ((rd a0.fNodes x4).fAttrs) x5).fLow), iA ((rd ((rd a0.fNodes x4).fAttrs) x5).fHigh), SlcA kStr ((rd ((rd a0.fNodes x4).fAttrs) x5).fNames)]) R sh95 (qy _) R R (leB R) R) ?_
       rintro _ _ ⟨rfl, rfl⟩
       refine qx <| QN.to (StTo.still [0] 6 R R) <| qw (env' := [(6, _), (5, _), (3, _), (4, _), (1, _)]) (.o4 R (.one R (.nil _))) <| qq <| qX <| qX ?_
       refine W.jn1 (Γ := Unit) (fun (_ : Unit) (x76 : Bool) => [(1, PtrA [SlcA kNodeType a0.fNodes, SlcA kEdgeType a0.fEdges]), (4, iA x4), (3, iA (x3 + (((rd a0.fNodes x4).fAttrs).length : Int))), (5, iA x5), (6, PtrA [EqA (strV ((rd ((rd a0.fNodes x4).fAttrs) x5).fName)), iA ((rd ((rd a0.fNodes x4).fAttrs) x5).fLow), iA ((rd ((rd a0.fNodes x4).fAttrs) x5).fHigh), SlcA kStr ((rd ((rd a0.fNodes x4).fAttrs) x5).fNames)]), (76, bA x76)]) (fun (_ : Unit) (_ : Bool) => []) h (fun _ x76 h => ?_) (fun j371 Kj371 h => ?_)
       ·refine qq ?_
        refine qZ h R (fun hb372 h => ?_) (fun hb372 h => ?_)
        ·refine sr <| ak R <| nt <| vq <| qQ <| vz <| qQ <| qQ <| vz <| vz <| qQ ?_
         refine qQ <| vz <| qQ ?_
         cases h
         exact vW R R (.t R) (.id _)
        ·refine qB <| qq <| sr <| ak R <| nt <| vx ?_
         refine W.loop1 (Γ := Unit) (fun (_ : Unit) (x7 : Int) => [(1, PtrA [SlcA kNodeType a0.fNodes, SlcA kEdgeType a0.fEdges]), (4, iA x4), (3, iA (x3 + (((rd a0.fNodes x4).fAttrs).length : Int))), (5, iA x5), (6, PtrA [EqA (strV ((rd ((rd a0.fNodes x4).fAttrs) x5).fName)), iA ((rd ((rd a0.fNodes x4).fAttrs) x5).fLow), iA ((rd ((rd a0.fNodes x4).fAttrs) x5).fHigh), SlcA kStr ((rd ((rd a0.fNodes x4).fAttrs) x5).fNames)]), (7, iA x7)]) (fun (_ : Unit) (_ : Int) => []) h () (.o4 R (.o2 R (.nil _))) R (fun rec2 K2 next2 _ x7 h => ?_)
         unfold ref04_Few.b2 at h
         refine qX <| sr <| mv R R <| fd R R fo95_3 R <| ld R R sh93 <| p1 R 79 R (vN R elS93) <| p2 R 77 R 80 R (qN R R) <| nt ?_
         refine qZ h R (fun hb383 h => ?_) (fun hb383 h => ?_)
         ·refine qB <| qq <| qX <| vx <| sr <| fd R R fo95_3 R <| ld R R sh93 <| mv R R ?_
          obtain ⟨c384, h⟩ := qK h
          refine p2 R 85 R 86 R (vX R el93 R c384.1 c384.2) <| ld R R sh9 <| p1 R 88 R (q_slen (s := (rd ((rd ((rd a0.fNodes x4).fAttrs) x5).fNames) x7)) R iss9) <| pk R 89 R (qN R R) <| qx <| qw (env' := [(90, _), (7, _), (6, _), (5, _), (3, _), (4, _), (1, _)]) (.o4 R (.o2 R (.one R (.nil _)))) <| qq ?_
          refine qZ h R (fun hb385 h => ?_) (fun hb385 h => ?_)
          ·refine sr <| ak R <| qx <| qw (env' := [(2, _)]) (.one R (.nil _)) <| qq <| vq <| vz <| qQ <| qQ <| vz <| vz <| qQ ?_
           refine qQ <| vz <| vz <| qQ <| qQ <| vz <| qQ ?_
           cases h
           exact vW R R (.t R) (.id _)
          ·refine qB <| vZ <| qq <| qJ <| mv R R ?_
           obtain ⟨c386, h⟩ := qK h
           refine pk R 82 R (vK R c386) <| av R R <| qx ?_
           exact next2 () (x7 + 1) _ h (.o4 R (.o2 R (.nil _)))
         ·refine W.exit <| qV <| qV <| vB <| vZ <| qw (env' := [(5, _), (3, _), (4, _), (1, _)]) (.o4 R (.nil _)) <| qq <| qJ <| mv R R ?_
          obtain ⟨c387, h⟩ := qK h
          refine pk R 56 R (vK R c387) <| av R R <| qx ?_
          exact next1 () (x5 + 1) _ h (.o4 R (.nil _))
       ·refine qJ <| fd R R fo95_0 R <| ld R R sh9 <| p1 R 68 R (q_slen (s := (rd ((rd a0.fNodes x4).fAttrs) x5).fName) R iss9) <| pk R 69 R (qN R R) <| mv R R ?_
        rcases bif_s h with ⟨hb388, h⟩ | ⟨hb388, h⟩
        ·refine sk R R R hb388 <| sk R R R hb388 <| sk R R R hb388 <| sk R R R hb388 <| pk R 71 R (vQ R hb388) <| qx ?_
         exact qw (.o4 R (.o2 R (.nil _))) (Kj371 () true h)
        ·refine wf R R R hb388 R R fo95_3 R <| wl R R R hb388 R R sh93 <| wq R R R hb388 (.s 73 R .nil) (vN R elS93).o <| wq R R R hb388 (.s 74 R (.k .nil)) (qN R R).o <| p2 R 71 R 75 R (vj R hb388) <| qx ?_
         exact qw (.o4 R (.o2 R (.nil _))) (Kj371 () (decide ((((rd ((rd a0.fNodes x4).fAttrs) x5).fNames).length : Int) > 25)) h)
      ·refine W.exit <| qV <| qV <| vB <| vZ <| qq <| qJ <| mv R R ?_
       obtain ⟨c389, h⟩ := qK h
       refine pk R 24 R (vK R c389) <| av R R <| qx ?_
       exact next0 () (x3 + (((rd a0.fNodes x4).fAttrs).length : Int)) (x4 + 1) _ h (.o2 R (.one R (.nil _)))
    ·refine qJ <| mv R R <| pk R 35 R (qN R R) <| mv R R ?_
     rcases bif_s h with ⟨hb390, h⟩ | ⟨hb390, h⟩
     ·refine sk R R R hb390 <| sk R R R hb390 <| sk R R R hb390 <| sk R R R hb390 <| sk R R R hb390 <| sk R R R hb390 <| sk R R R hb390 <| sk R R R hb390 <| pk R 37 R (vQ R hb390) <| qx ?_
      exact qw (.o4 R (.nil _)) (Kj310 () true h)
     ·refine wf R R R hb390 R R fo35_0 R <| wl R R R hb390 R R sh32 <| wm R R R hb390 R R ?_
      obtain ⟨c391, h⟩ := qK h
      refine wq R R R hb390 (.s 39 R (.s 40 R .nil)) (vX R el32 R c391.1 c391.2).o <| wf R R R hb390 R R fo92_0 R <| wl R R R hb390 R R sh9 <| wq R R R hb390 (.s 43 R .nil) (q_slen (s := (rd a0.fNodes x4).fName) R iss9).o <| wq R R R hb390 (.s 44 R (.k .nil)) (qN R R).o <| p2 R 37 R 45 R (vj R hb390) <| qx ?_
      exact qw (.o4 R (.nil _)) (Kj310 () (decide ((((rd a0.fNodes x4).fName).length : Int) > 40)) h)
   ·refine W.exit <| qV <| qV <| vB <| qw (env' := [(1, _)]) (.one R (.nil _)) <| qq <| qX <| sr <| ak R <| nt <| vx ?_
    refine W.loop1 (Γ := Unit) (fun (_ : Unit) (x8 : Int) => [(1, PtrA [SlcA kNodeType a0.fNodes, SlcA kEdgeType a0.fEdges]), (8, iA x8)]) (fun (_ : Unit) (_ : Int) => []) h () (.o2 R (.nil _)) R (fun rec3 K3 next3 _ x8 h => ?_)
    unfold ref04_Few.b3 at h
    refine qX <| sr <| mv R R <| fd R R fo35_1 R <| ld R R sh33 <| p1 R 93 R (vN R elS33) <| p2 R 91 R 94 R (qN R R) <| nt ?_
    refine qZ h R (fun hb400 h => ?_) (fun hb400 h => ?_)
    ·refine qB <| qq <| qX <| vx <| sr <| fd R R fo35_1 R <| ld R R sh33 <| mv R R ?_
     obtain ⟨c401, h⟩ := qK h
     refine p2 R 99 R 100 R (vX R el33 R c401.1 c401.2) <| fd R R fo97_0 R <| ld R R sh9 <| p1 R 103 R (q_slen (s := (rd a0.fEdges x8).fName) R iss9) <| pk R 104 R (qN R R) <| qx <| qw (env' := [(105, _), (8, _), (1, _)]) (.o2 R (.one R (.nil _))) <| qq ?_
     refine qZ h R (fun hb402 h => ?_) (fun hb402 h => ?_)
     ·refine sr <| ak R <| nt <| vq <| vz <| qQ <| qQ <| vz <| qQ ?_
      cases h
      exact vW R R (.t R) (.id _)
     ·refine qB <| vZ <| qq <| qJ <| mv R R ?_
      obtain ⟨c403, h⟩ := qK h
      refine pk R 96 R (vK R c403) <| av R R <| qx ?_
      exact next3 () (x8 + 1) _ h (.o2 R (.nil _))
    ·refine W.exit <| qV <| qV <| vB <| qw (env' := []) (.nil _) <| qq <| sr <| ak R <| nt <| vq ?_
     cases h
     exact vW R R (.t R) (.id _)
 ·refine qJ <| fd R R fo35_0 R <| ld R R sh32 <| p1 R 10 R (vN R elS32) <| pk R 11 R (qN R R) <| mv R R ?_
  rcases bif_s h with ⟨hb404, h⟩ | ⟨hb404, h⟩
  ·refine sk R R R hb404 <| sk R R R hb404 <| sk R R R hb404 <| sk R R R hb404 <| pk R 13 R (vQ R hb404) <| qx ?_
   exact qw (.o2 R (.nil _)) (Kj102 () true h)
  ·refine wf R R R hb404 R R fo35_1 R <| wl R R R hb404 R R sh33 <| wq R R R hb404 (.s 15 R .nil) (vN R elS33).o <| wq R R R hb404 (.s 16 R (.k .nil)) (qN R R).o <| p2 R 13 R 17 R (vj R hb404) <| qx ?_
   exact qw (.o2 R (.nil _)) (Kj102 () (decide ((a0.fEdges.length : Int) > 30)) h)
theorem ref05_Few.con (k : Nat) (a0 : Graph) (r : Bool) (h : ref05_Few k a0 = some r) : Con Tryz.prog 43 [] [AggA [SlcA kInt a0.fNodes, SlcA kEdge a0.fEdges]] (RA (bA r)) := by
 unfold ref05_Few at h
 refine vJ (N := 13) Tryz.func43 R R R fun w0_ fg_ => sr <| p1 R 0 R (q_box R (qy _)) <| ak R <| nt <| qX ?_
 refine W.jn1 (Γ := Unit) (fun (_ : Unit) (x2 : Bool) => [(2, bA x2)]) (fun (_ : Unit) (_ : Bool) => []) h (fun _ x2 h => ?_) (fun j102 Kj102 h => ?_)
 ·refine qq <| vq ?_
  cases h
  exact vW R R (.t R) (.id _)
 ·refine qJ <| fd R R fo38_0 R <| ld R R sh26 <| p1 R 4 R (vN R elS26) <| pk R 5 R (qN R R) <| mv R R ?_
  rcases bif_s h with ⟨hb103, h⟩ | ⟨hb103, h⟩
  ·refine wf R R R hb103 R R fo38_1 R <| wl R R R hb103 R R sh36 <| wq R R R hb103 (.s 9 R .nil) (vN R elS36).o <| wq R R R hb103 (.s 10 R (.k .nil)) (qN R R).o <| p2 R 7 R 11 R (vQ R hb103) <| av R R <| qx ?_
   exact qw (.one R (.nil _)) (Kj102 () (decide ((a0.fEdges.length : Int) ≤ 90)) h)
  ·refine sk R R R hb103 <| sk R R R hb103 <| sk R R R hb103 <| sk R R R hb103 <| pk R 7 R (vj R hb103) <| av R R <| qx ?_
   exact qw (.one R (.nil _)) (Kj102 () false h)
theorem ref21_Few.con (k : Nat) (a0 : Pattern) (r : Bool) (h : ref21_Few k a0 = some r) : Con Tryz.prog 14 [] [AggA [SlcA kInt a0.fGraph.fNodes, SlcA kEdge a0.fGraph.fEdges, SlcA kSlot a0.fSlots, iA a0.fVars, SlcA kTest a0.fTests]] (RA (bA r)) := by
 unfold ref21_Few at h
 refine vJ (N := 18) Tryz.func14 R R R fun w0_ fg_ => sr <| p1 R 0 R (q_box R (qy _)) <| ak R <| nt <| qX ?_
 refine W.jn1 (Γ := Unit) (fun (_ : Unit) (x2 : Bool) => [(2, bA x2)]) (fun (_ : Unit) (_ : Bool) => []) h (fun _ x2 h => ?_) (fun j104 Kj104 h => ?_)
 ·refine qq <| vq ?_
  cases h
  exact vW R R (.t R) (.id _)
 ·refine qJ <| fd R R fo42_0 R <| lS R R sh38 R R ?_
  obtain ⟨t105, ht105, h⟩ := vw h
  refine p1 R 4 R (vy (f := 43) (A := bA t105) (xs := [.tmp 4]) («as» := [AggA [SlcA kInt a0.fGraph.fNodes, SlcA kEdge a0.fGraph.fEdges]]) R ca43 (ref05_Few.con k a0.fGraph t105 ht105) R) <| mv R R ?_
  rcases bif_s h with ⟨hb106, h⟩ | ⟨hb106, h⟩
  ·refine wf R R R hb106 R R fo42_1 R <| wl R R R hb106 R R sh39 <| wq R R R hb106 (.s 8 R .nil) (vN R elS39).o <| wq R R R hb106 (.s 9 R (.k .nil)) (qN R R).o <| p2 R 6 R 10 R (vQ R hb106) <| mv R R ?_
   rcases bif_s h with ⟨hb107, h⟩ | ⟨hb107, h⟩
   ·refine wf R R R hb107 R R fo42_3 R <| wl R R R hb107 R R sh40 <| wq R R R hb107 (.s 14 R .nil) (vN R elS40).o <| wq R R R hb107 (.s 15 R (.k .nil)) (qN R R).o <| p2 R 12 R 16 R (vQ R hb107) <| av R R <| qx ?_
    exact qw (.one R (.nil _)) (Kj104 () (decide ((a0.fTests.length : Int) ≤ 15)) h)
   ·refine sk R R R hb107 <| sk R R R hb107 <| sk R R R hb107 <| sk R R R hb107 <| pk R 12 R (vj R hb107) <| av R R <| qx ?_
    exact qw (.one R (.nil _)) (Kj104 () false h)
  ·refine sk R R R hb106 <| sk R R R hb106 <| sk R R R hb106 <| sk R R R hb106 <| pk R 6 R (vj R hb106) <| mv R R <| sk R R R R <| sk R R R R <| sk R R R R <| sk R R R R <| pk R 12 R (vj R R) <| av R R <| qx ?_
   exact qw (.one R (.nil _)) (Kj104 () false h)
theorem ref05_Copied.con (k : Nat) (a0 : Graph) (r : Graph) (h : ref05_Copied k a0 = some r) : Con Tryz.prog 46 [] [AggA [SlcA kInt a0.fNodes, SlcA kEdge a0.fEdges]] (fun O' A => ∃ u0 u1, O' = [SlE 3 u0 kInt r.fNodes, SlE 109 u1 kEdge r.fEdges] ∧ A = AggA [HdA u0, HdA u1]) := by
 unfold ref05_Copied at h
 refine vJ (N := 12) Tryz.func46 R R R fun w0_ fg_ => sr <| p1 R 0 R (q_box R (qy _)) <| WL.w [] R (qj R) R R .nil (w_alloc R z38 (l := [EqA (.slice none 0 0), EqA (.slice none 0 0)]) R) ?_
 rintro _ _ ⟨b100, rfl, rfl⟩
 refine nt <| qX <| W.drawK [(0, false), (1, false), (2, false), (4, false), (5, false), (6, false)] [3, 7, 8, 9] (bm [0, 0, 2, 7, 0, 0, 32, 127, 255, 511]) mx (by kernel_rfl) <| qz R R (.p R .nil R (q_lit0 R el26 gr3)) <| df R R R fo38_0 R <| dl R R R sh26 ?_
 obtain ⟨c109, h⟩ := qK h
 refine qz R R (.p R .nil R (q_lit0 R el36 gr109)) <| df R R R fo38_1 R <| dl R R R sh36 ?_
 obtain ⟨c111, h⟩ := qK h
 refine DK.nil <| CSteps.w [] R R R R (.s 3 R (.s 5 R .nil)) R (w_appendZ (kd := kInt) R el26 R gr3 c109) ?_
 rintro _ _ ⟨v110, rfl, rfl⟩
 refine CSteps.w [] R R R R (.s 7 R (.s 9 R .nil)) R (w_appendZ (kd := kEdge) R el36 R gr109 c111) ?_
 rintro _ _ ⟨v112, rfl, rfl⟩
 refine CSteps.p R R R (.s 6 R (.s 10 R .nil)) R (q_build (is := [0, 1]) (xs := [.tmp 6, .tmp 10]) (L := [HdA v110, HdA v112]) R R z38 pl38 R R (.cons (qW R) (.cons (qW R) .nil)) R) <| CSteps.w0 [2] R R R (.s 2 R (.s 11 R .nil)) R (w_store (L := [HdA v110, HdA v112]) R sh38 (qy _) R R (leB R) R) ?_
 rintro _ _ ⟨rfl, rfl⟩
 refine CSteps.nil <| QN.to (StTo.still [0] 2 R R) <| qw (env' := [(2, _)]) (.one R (.nil _)) <| qq <| vq ?_
 cases h
 refine QR.order [1, 0] R ?_
 exact QR.r1 R R (.ps R sh38 R) ⟨v110, v112, R, R⟩
theorem ref21_Copied.con (k : Nat) (a0 : Pattern) (r : Pattern) (h : ref21_Copied k a0 = some r) : Con Tryz.prog 16 [] [AggA [SlcA kInt a0.fGraph.fNodes, SlcA kEdge a0.fGraph.fEdges, SlcA kSlot a0.fSlots, iA a0.fVars, SlcA kTest a0.fTests]] (RA (AggA [SlcA kInt r.fGraph.fNodes, SlcA kEdge r.fGraph.fEdges, SlcA kSlot r.fSlots, iA r.fVars, SlcA kTest r.fTests])) := by
 unfold ref21_Copied at h
 refine vJ (N := 17) Tryz.func16 R R R fun w0_ fg_ => sr <| p1 R 0 R (q_box R (qy _)) <| WL.w [] R (qj R) R R .nil (w_alloc R z42 (l := [EqA (.slice none 0 0), EqA (.slice none 0 0), EqA (.slice none 0 0), iA 0, EqA (.slice none 0 0)]) R) ?_
 rintro _ _ ⟨b100, rfl, rfl⟩
 refine nt <| qX <| W.drawK [(0, false), (1, false), (3, false), (4, false), (5, false), (7, false), (8, false), (9, false), (10, false), (11, false)] [2, 6, 12, 13, 14] (bm [0, 1, 3, 0, 0, 16, 63, 0, 128, 0, 0, 1024, 3711, 8191, 16383]) mx (by kernel_rfl) <| df R R R fo42_0 R <| qz R R (.p R (.s 3 R .nil) R (q_loadS R sh38 (leB R) R)) ?_
 obtain ⟨t111, ht111, h⟩ := vw h
 refine qz R R (.p R .nil R (q_lit0 R el39 gr113)) <| df R R R fo42_1 R <| dl R R R sh39 ?_
 obtain ⟨c114, h⟩ := qK h
 refine df R R R fo42_2 R <| dl R R R sh3 <| qz R R (.p R .nil R (q_lit0 R el40 gr86)) <| df R R R fo42_3 R <| dl R R R sh40 ?_
 obtain ⟨c115, h⟩ := qK h
 refine DK.nil <| CSteps.w [] R R R R (.s 4 R .nil) R (w_callI (f := 46) (xs := [.tmp 4]) («as» := [AggA [SlcA kInt a0.fGraph.fNodes, SlcA kEdge a0.fGraph.fEdges]]) R ca46 (ref05_Copied.con k a0.fGraph t111 ht111) R (.cons (Imp.id _) .nil)) ?_
 rintro _ _ ⟨v112, v113, rfl, rfl⟩
 refine CSteps.p R R R (.s 6 R (.s 8 R .nil)) R (QS.of_new (w_appendZ (kd := kSlot) R el39 R gr113 c114)) <| CSteps.p R R R (.s 12 R (.s 14 R .nil)) R (QS.of_new (w_appendZ (kd := kTest) R el40 R gr86 c115)) <| CSteps.p R R R (.s 5 R (.s 9 R (.s 11 R (.s 15 R .nil)))) R (q_build (is := [0, 1, 2, 3]) (xs := [.tmp 5, .tmp 9, .tmp 11, .tmp 15]) (L := [HdA v112, HdA v113, SlcA kSlot a0.fSlots, iA a0.fVars, SlcA kTest a0.fTests]) R R z42 pl42 R R (.cons (qy _) (.cons (qW R) (.cons (qW R) (.cons (qW R) .nil)))) R) <| CSteps.w0 [2] R R R (.s 2 R (.s 16 R .nil)) R (w_store (L := [HdA v112, HdA v113, SlcA kSlot a0.fSlots, iA a0.fVars, SlcA kTest a0.fTests]) R sh42 (qy _) R R (leB R) R) ?_
 rintro _ _ ⟨rfl, rfl⟩
 refine CSteps.nil <| QN.to (StTo.still [0] 2 R R) <| qw (env' := [(2, _)]) (.one R (.nil _)) <| qq <| vq ?_
 cases h
 exact vW R R (.ps R sh42 R) (.agg (.cons (.slc 0 R) (.cons (.slc 1 R) (.cons (.id _) (.cons (.id _) (.cons (.id _) .nil))))))
theorem ref01_text.con (k : Nat) (a0 : Token) (r : Str) (h : ref01_text k a0 = some r) : Con Tryz.prog 202 [] [AggA [iA a0.fKind, EqA (strV a0.fText), iA a0.fLine]] (RA (EqA (strV r))) := by
 unfold ref01_text at h
 refine vJ (N := 12) Tryz.func202 R R R fun w0_ fg_ => sr <| p1 R 0 R (q_box R (qy _)) <| ak R <| nt <| qX <| sr <| fd R R fo226_0 R <| ld R R sh3 <| pk R 4 R (qN R R) ?_
 refine nt ?_
 refine qZ h R (fun hb100 h => ?_) (fun hb100 h => ?_)
 ·refine sr <| fd R R fo226_1 R <| ld R R sh9 ?_
  obtain ⟨c101, h⟩ := qK h
  refine WL.p R R R (.k (.s 7 R .nil)) (q_sadd (s := ([34] : Str)) (t := a0.fText) R c101) ?_
  obtain ⟨c102, h⟩ := qK h
  refine pk R 8 R (q_sadd (s := (([34] : Str) ++ a0.fText)) (t := ([34] : Str)) R c102) <| av R R <| qx <| qw (env' := [(2, _)]) (.one R (.nil _)) <| qq <| vq <| qQ ?_
  cases h
  exact vW R R (.t R) (.id _)
 ·refine qB <| qq <| sr <| fd R R fo226_1 R <| ld R R sh9 <| av R R <| qx <| qw (env' := [(2, _)]) (.one R (.nil _)) <| qq <| vq ?_
  cases h
  exact vW R R (.t R) (.id _)
theorem ref01_letter.con (k : Nat) (a0 : Int) (r : Bool) (h : ref01_letter k a0 = some r) : Con Tryz.prog 220 [] [EqA (.int .u8 a0)] (RA (bA r)) := by
 unfold ref01_letter at h
 refine vJ (N := 17) Tryz.func220 R R R fun w0_ fg_ => sr <| ak R <| nt <| qX ?_
 refine W.jn1 (Γ := Unit) (fun (_ : Unit) (x2 : Bool) => [(2, bA x2)]) (fun (_ : Unit) (_ : Bool) => []) h (fun _ x2 h => ?_) (fun j105 Kj105 h => ?_)
 ·refine qq <| vq ?_
  cases h
  exact vW R R (.t R) (.id _)
 ·refine qJ <| mv R R <| pk R 3 R (qN R R) <| mv R R ?_
  rcases bif_s h with ⟨hb106, h⟩ | ⟨hb106, h⟩
  ·refine wm R R R hb106 R R <| wq R R R hb106 (.s 6 R (.k .nil)) (qN R R).o <| p2 R 5 R 7 R (vQ R hb106) <| mv R R ?_
   rcases bif_s h with ⟨hb107, h⟩ | ⟨hb107, h⟩
   ·refine sk R R R hb107 <| sk R R R hb107 <| sk R R R hb107 <| su R R R <| su R R R <| sk R R R hb107 <| pk R 9 R (vQ R hb107) <| av R R <| qx ?_
    exact qw (.one R (.nil _)) (Kj105 () true h)
   ·refine wm R R R hb107 R R <| wq R R R hb107 (.s 10 R (.k .nil)) (qN R R).o <| wm R R R hb107 R R ?_
    rcases bif_s h with ⟨hb108, h⟩ | ⟨hb108, h⟩
    ·refine wm R R R hb108 R R <| wq R R R hb108 (.s 13 R (.k .nil)) (qN R R).o <| wq R R R hb107 (.s 12 R (.s 14 R .nil)) (vQ R hb108).o <| p2 R 9 R 15 R (vj R hb107) <| av R R <| qx ?_
     exact qw (.one R (.nil _)) (Kj105 () (decide (a0 ≤ 90)) h)
    ·refine sk R R R hb108 <| sk R R R hb108 <| wq R R R hb107 (.s 12 R (.k .nil)) (vj R hb108).o <| p2 R 9 R 15 R (vj R hb107) <| av R R <| qx ?_
     exact qw (.one R (.nil _)) (Kj105 () false h)
  ·refine sk R R R hb106 <| sk R R R hb106 <| pk R 5 R (vj R hb106) <| mv R R <| wm R R R R R R <| wq R R R R (.s 10 R (.k .nil)) (qN R R).o <| wm R R R R R R ?_
   rcases bif_s h with ⟨hb109, h⟩ | ⟨hb109, h⟩
   ·refine wm R R R hb109 R R <| wq R R R hb109 (.s 13 R (.k .nil)) (qN R R).o <| wq R R R R (.s 12 R (.s 14 R .nil)) (vQ R hb109).o <| p2 R 9 R 15 R (vj R R) <| av R R <| qx ?_
    exact qw (.one R (.nil _)) (Kj105 () (decide (a0 ≤ 90)) h)
   ·refine sk R R R hb109 <| sk R R R hb109 <| wq R R R R (.s 12 R (.k .nil)) (vj R hb109).o <| p2 R 9 R 15 R (vj R R) <| av R R <| qx ?_
    exact qw (.one R (.nil _)) (Kj105 () false h)
theorem ref01_digit.con (k : Nat) (a0 : Int) (r : Bool) (h : ref01_digit k a0 = some r) : Con Tryz.prog 221 [] [EqA (.int .u8 a0)] (RA (bA r)) := by
 unfold ref01_digit at h
 refine vJ (N := 9) Tryz.func221 R R R fun w0_ fg_ => sr <| ak R <| nt <| qX ?_
 refine W.jn1 (Γ := Unit) (fun (_ : Unit) (x2 : Bool) => [(2, bA x2)]) (fun (_ : Unit) (_ : Bool) => []) h (fun _ x2 h => ?_) (fun j102 Kj102 h => ?_)
 ·refine qq <| vq ?_
  cases h
  exact vW R R (.t R) (.id _)
 ·refine qJ <| mv R R <| pk R 3 R (qN R R) <| mv R R ?_
  rcases bif_s h with ⟨hb103, h⟩ | ⟨hb103, h⟩
  ·refine wm R R R hb103 R R <| wq R R R hb103 (.s 6 R (.k .nil)) (qN R R).o <| p2 R 5 R 7 R (vQ R hb103) <| av R R <| qx ?_
   exact qw (.one R (.nil _)) (Kj102 () (decide (a0 ≤ 57)) h)
  ·refine sk R R R hb103 <| sk R R R hb103 <| pk R 5 R (vj R hb103) <| av R R <| qx ?_
   exact qw (.one R (.nil _)) (Kj102 () false h)
theorem ref01_run.con (k : Nat) (a0 : Str) (a1 : Int) (a2 : Bool) (r : Int) (h : ref01_run k a0 a1 a2 = some r) : Con Tryz.prog 222 [] [EqA (strV a0), iA a1, bA a2] (RA (iA r)) := by
 unfold ref01_run at h
 refine vJ (N := 45) Tryz.func222 R R R fun w0_ fg_ => sr <| ak R <| nx <| ak R <| nt <| qX <| vx ?_
 refine W.loop1 (Γ := Unit) (fun (_ : Unit) (x7 : Int) => [(0, EqA (strV a0)), (1, iA a1), (2, bA a2), (7, iA x7)]) (fun (_ : Unit) (_ : Int) => []) h () (.o4 R (.nil _)) R (fun rec0 K0 next0 _ x7 h => ?_)
 unfold ref01_run.b0 at h
 refine qX <| qX ?_
 refine W.jn1 (Γ := Unit) (fun (_ : Unit) (x41 : Bool) => [(0, EqA (strV a0)), (1, iA a1), (2, bA a2), (7, iA x7), (41, bA x41)]) (fun (_ : Unit) (_ : Bool) => []) h (fun _ x41 h => ?_) (fun j174 Kj174 h => ?_)
 ·refine qq ?_
  refine qZ h R (fun hb175 h => ?_) (fun hb175 h => ?_)
  ·refine qB <| qq <| vx <| qJ <| mv R R ?_
   obtain ⟨c176, h⟩ := qK h
   refine pk R 42 R (vK R c176) <| av R R <| qx <| vZ ?_
   exact next0 () (x7 + 1) _ h (.o4 R (.nil _))
  ·refine W.exit <| qV <| qV <| vB <| qq <| sr <| mv R R <| av R R <| nt <| vq ?_
   cases h
   exact vW R R (.t R) (.id _)
 ·refine qJ <| mv R R <| mv R R ?_
  obtain ⟨c177, h⟩ := qK h
  refine p2 R 8 R 9 R (vK R c177) <| mv R R <| p1 R 11 R (q_slen (s := a0) R iss9) <| p2 R 10 R 12 R (qN R R) <| mv R R ?_
  rcases bif_s h with ⟨hb178, h⟩ | ⟨hb178, h⟩
  ·refine wm R R R hb178 R R <| wm R R R hb178 R R <| wm R R R hb178 R R ?_
   obtain ⟨c179, h⟩ := qK h
   refine wq R R R hb178 (.s 16 R (.s 17 R .nil)) (vK R c179).o ?_
   obtain ⟨c180, h⟩ := qK h
   refine wq R R R hb178 (.s 15 R (.s 18 R .nil)) (q_sindex R iss9 c180.1 c180.2).o ?_
   obtain ⟨t181, ht181, h⟩ := vw h
   refine wq R R R hb178 (.s 19 R .nil) (vy (f := 221) (A := bA t181) (xs := [.tmp 19]) («as» := [EqA (.int .u8 (bt a0 (a1 + x7)))]) R ca221 (ref01_digit.con k (bt a0 (a1 + x7)) t181 ht181) R).o <| wm R R R hb178 R R ?_
   rcases bif_s h with ⟨hb182, h⟩ | ⟨hb182, h⟩
   ·refine sk R R R hb182 <| sk R R R hb182 <| sk R R R hb182 <| su R R R <| su R R R <| su R R R <| su R R R <| su R R R <| su R R R <| su R R R <| su R R R <| su R R R <| su R R R ?_
    refine su R R R <| su R R R <| su R R R <| su R R R <| sk R R R hb182 <| wq R R R hb178 (.s 21 R (.k .nil)) (vQ R hb182).o <| p2 R 14 R 40 R (vQ R hb178) <| qx ?_
    exact qw (.o4 R (.one R (.nil _))) (Kj174 () true h)
   ·refine wm R R R hb182 R R <| wq R R R hb182 (.s 22 R .nil) (q_not R).o <| wm R R R hb182 R R ?_
    rcases bif_s h with ⟨hb183, h⟩ | ⟨hb183, h⟩
    ·refine wm R R R hb183 R R <| wm R R R hb183 R R <| wm R R R hb183 R R ?_
     obtain ⟨c184, h⟩ := qK h
     refine wq R R R hb183 (.s 26 R (.s 27 R .nil)) (vK R c184).o ?_
     obtain ⟨c185, h⟩ := qK h
     refine wq R R R hb183 (.s 25 R (.s 28 R .nil)) (q_sindex R iss9 c185.1 c185.2).o ?_
     obtain ⟨t186, ht186, h⟩ := vw h
     refine wq R R R hb183 (.s 29 R .nil) (vy (f := 220) (A := bA t186) (xs := [.tmp 29]) («as» := [EqA (.int .u8 (bt a0 (a1 + x7)))]) R ca220 (ref01_letter.con k (bt a0 (a1 + x7)) t186 ht186) R).o <| wm R R R hb183 R R ?_
     rcases bif_s h with ⟨hb187, h⟩ | ⟨hb187, h⟩
     ·refine sk R R R hb187 <| sk R R R hb187 <| sk R R R hb187 <| sk R R R hb187 <| sk R R R hb187 <| sk R R R hb187 <| wq R R R hb183 (.s 31 R (.k .nil)) (vQ R hb187).o <| wq R R R hb182 (.s 24 R (.s 38 R .nil)) (vQ R hb183).o <| wq R R R hb178 (.s 21 R (.s 39 R .nil)) (vj R hb182).o <| p2 R 14 R 40 R (vQ R hb178) <| qx ?_
      exact qw (.o4 R (.one R (.nil _))) (Kj174 () true h)
     ·refine wm R R R hb187 R R <| wm R R R hb187 R R <| wm R R R hb187 R R ?_
      obtain ⟨c188, h⟩ := qK h
      refine wq R R R hb187 (.s 33 R (.s 34 R .nil)) (vK R c188).o ?_
      obtain ⟨c189, h⟩ := qK h
      refine wq R R R hb187 (.s 32 R (.s 35 R .nil)) (q_sindex R iss9 c189.1 c189.2).o <| wq R R R hb187 (.s 36 R (.k .nil)) (qN R R).o <| wq R R R hb183 (.s 31 R (.s 37 R .nil)) (vj R hb187).o <| wq R R R hb182 (.s 24 R (.s 38 R .nil)) (vQ R hb183).o <| wq R R R hb178 (.s 21 R (.s 39 R .nil)) (vj R hb182).o <| p2 R 14 R 40 R (vQ R hb178) <| qx ?_
      exact qw (.o4 R (.one R (.nil _))) (Kj174 () ((bt a0 (a1 + x7)) == 95) h)
    ·refine sk R R R hb183 <| sk R R R hb183 <| sk R R R hb183 <| sk R R R hb183 <| sk R R R hb183 <| sk R R R hb183 <| sk R R R hb183 <| su R R R <| su R R R <| su R R R <| su R R R <| su R R R <| su R R R ?_
     refine sk R R R hb183 <| wq R R R hb182 (.s 24 R (.k .nil)) (vj R hb183).o <| wq R R R hb178 (.s 21 R (.s 39 R .nil)) (vj R hb182).o <| p2 R 14 R 40 R (vQ R hb178) <| qx ?_
     exact qw (.o4 R (.one R (.nil _))) (Kj174 () false h)
  ·refine sk R R R hb178 <| sk R R R hb178 <| sk R R R hb178 <| sk R R R hb178 <| sk R R R hb178 <| sk R R R hb178 <| sk R R R hb178 <| su R R R <| su R R R <| su R R R <| su R R R <| su R R R <| su R R R ?_
   refine su R R R <| su R R R <| su R R R <| su R R R <| su R R R <| su R R R <| su R R R <| su R R R <| su R R R <| su R R R <| su R R R <| su R R R <| sk R R R hb178 ?_
   refine pk R 14 R (vj R hb178) <| qx ?_
   exact qw (.o4 R (.one R (.nil _))) (Kj174 () false h)
theorem ref01_quoted.con (k : Nat) (a0 : Str) (a1 : Int) (r : Int) (h : ref01_quoted k a0 a1 = some r) : Con Tryz.prog 223 [] [EqA (strV a0), iA a1] (RA (iA r)) := by
 unfold ref01_quoted at h
 refine vJ (N := 30) Tryz.func223 R R R fun w0_ fg_ => sr <| ak R <| nt <| qX <| sr <| ak R <| nt <| vx ?_
 refine W.loop1 (Γ := Unit) (fun (_ : Unit) (x5 : Int) => [(0, EqA (strV a0)), (1, iA a1), (5, iA x5)]) (fun (_ : Unit) (_ : Int) => []) h () (.o2 R (.one R (.nil _))) R (fun rec0 K0 next0 _ x5 h => ?_)
 unfold ref01_quoted.b0 at h
 refine qX <| sr <| mv R R <| mv R R ?_
 obtain ⟨c124, h⟩ := qK h
 refine p2 R 7 R 8 R (vK R c124) <| mv R R <| p1 R 10 R (q_slen (s := a0) R iss9) <| p2 R 9 R 11 R (qN R R) <| nt ?_
 refine qZ h R (fun hb125 h => ?_) (fun hb125 h => ?_)
 ·refine qB <| qq <| qX <| vx <| sr <| mv R R <| mv R R <| mv R R ?_
  obtain ⟨c126, h⟩ := qK h
  refine p2 R 16 R 17 R (vK R c126) ?_
  obtain ⟨c127, h⟩ := qK h
  refine p2 R 15 R 18 R (q_sindex R iss9 c127.1 c127.2) <| av R R <| qx <| qw (env' := [(6, _), (5, _), (1, _), (0, _)]) (.o4 R (.nil _)) <| qq <| qX <| sr <| mv R R <| pk R 20 R (qN R R) <| nt ?_
  refine qZ h R (fun hb128 h => ?_) (fun hb128 h => ?_)
  ·refine sr <| mv R R ?_
   obtain ⟨c129, h⟩ := qK h
   refine pk R 22 R (vK R c129) <| av R R <| qx <| qw (env' := [(4, _)]) (.one R (.nil _)) <| qq <| vq <| qQ <| vz <| qQ <| qQ <| vz <| qQ ?_
   cases h
   exact vW R R (.t R) (.id _)
  ·refine qB <| qq <| qX ?_
   refine W.jn1 (Γ := Unit) (fun (_ : Unit) (x29 : Bool) => [(0, EqA (strV a0)), (1, iA a1), (5, iA x5), (29, bA x29)]) (fun (_ : Unit) (_ : Bool) => []) h (fun _ x29 h => ?_) (fun j132 Kj132 h => ?_)
   ·refine qq ?_
    refine qZ h R (fun hb133 h => ?_) (fun hb133 h => ?_)
    ·refine sr <| ak R <| nt <| vq <| vz <| qQ <| qQ <| vz <| qQ ?_
     cases h
     exact vW R R (.t R) (.id _)
    ·refine qB <| vZ <| qq <| qJ <| mv R R ?_
     obtain ⟨c134, h⟩ := qK h
     refine pk R 13 R (vK R c134) <| av R R <| qx ?_
     exact next0 () (x5 + 1) _ h (.o2 R (.one R (.nil _)))
   ·refine qJ <| mv R R <| pk R 24 R (qN R R) <| mv R R ?_
    rcases bif_s h with ⟨hb135, h⟩ | ⟨hb135, h⟩
    ·refine sk R R R hb135 <| sk R R R hb135 <| pk R 26 R (vQ R hb135) <| qx ?_
     exact qw (.o4 R (.nil _)) (Kj132 () true h)
    ·refine wm R R R hb135 R R <| wq R R R hb135 (.s 27 R (.k .nil)) (qN R R).o <| p2 R 26 R 28 R (vj R hb135) <| qx ?_
     exact qw (.o4 R (.nil _)) (Kj132 () (decide ((bt a0 (a1 + x5)) > 126)) h)
 ·refine W.exit <| qV <| qV <| vB <| qw (env' := []) (.nil _) <| qq <| sr <| ak R <| nt <| vq ?_
  cases h
  exact vW R R (.t R) (.id _)
theorem ref01_signs.con (k : Nat) (r : (List Str)) (h : ref01_signs k = some r) : Con Tryz.prog 224 [] [] (RA (SlcA kStr r)) := by
 unfold ref01_signs at h
 refine vJ (N := 2) Tryz.func224 R R R fun w0_ fg_ => sr <| ak R <| nx <| WL.p R R R (.k (.k (.k (.k (.k (.k (.k (.k (.k (.k (.k (.k (.k (.k (.k (.k (.k (.k (.k (.k (.k (.k (.k (.k (.k .nil))))))))))))))))))))))))) (q_lit (kd := kStr) (ps := [(0, .const (.string ⟨#[45, 62]⟩)), (1, .const (.string ⟨#[60, 61]⟩)), (2, .const (.string ⟨#[62, 61]⟩)), (3, .const (.string ⟨#[61, 61]⟩)), (4, .const (.string ⟨#[33, 61]⟩)), (5, .const (.string ⟨#[123]⟩)), (6, .const (.string ⟨#[125]⟩)), (7, .const (.string ⟨#[40]⟩)), (8, .const (.string ⟨#[41]⟩)), (9, .const (.string ⟨#[91]⟩)), (10, .const (.string ⟨#[93]⟩)), (11, .const (.string ⟨#[44]⟩)), (12, .const (.string ⟨#[59]⟩)), (13, .const (.string ⟨#[58]⟩)), (14, .const (.string ⟨#[61]⟩)), (15, .const (.string ⟨#[43]⟩)), (16, .const (.string ⟨#[45]⟩)), (17, .const (.string ⟨#[42]⟩)), (18, .const (.string ⟨#[60]⟩)), (19, .const (.string ⟨#[62]⟩)), (20, .const (.string ⟨#[33]⟩)), (21, .const (.string ⟨#[38]⟩)), (22, .const (.string ⟨#[124]⟩)), (23, .const (.string ⟨#[46]⟩)), (24, .const (.string ⟨#[63]⟩))]) (xs := [.const (.string ⟨#[45, 62]⟩), .const (.string ⟨#[60, 61]⟩), .const (.string ⟨#[62, 61]⟩), .const (.string ⟨#[61, 61]⟩), .const (.string ⟨#[33, 61]⟩), .const (.string ⟨#[123]⟩), .const (.string ⟨#[125]⟩), .const (.string ⟨#[40]⟩), .const (.string ⟨#[41]⟩), .const (.string ⟨#[91]⟩), .const (.string ⟨#[93]⟩), .const (.string ⟨#[44]⟩), .const (.string ⟨#[59]⟩), .const (.string ⟨#[58]⟩), .const (.string ⟨#[61]⟩), .const (.string ⟨#[43]⟩), .const (.string ⟨#[45]⟩), .const (.string ⟨#[42]⟩), .const (.string ⟨#[60]⟩), .const (.string ⟨#[62]⟩), .const (.string ⟨#[33]⟩), .const (.string ⟨#[38]⟩), .const (.string ⟨#[124]⟩), .const (.string ⟨#[46]⟩), .const (.string ⟨#[63]⟩)]) («as» := [EqA (strV ([45, 62] : Str)), EqA (strV ([60, 61] : Str)), EqA (strV ([62, 61] : Str)), EqA (strV ([61, 61] : Str)), EqA (strV ([33, 61] : Str)), EqA (strV ([123] : Str)), EqA (strV ([125] : Str)), EqA (strV ([40] : Str)), EqA (strV ([41] : Str)), EqA (strV ([91] : Str)), EqA (strV ([93] : Str)), EqA (strV ([44] : Str)), EqA (strV ([59] : Str)), EqA (strV ([58] : Str)), EqA (strV ([61] : Str)), EqA (strV ([43] : Str)), EqA (strV ([45] : Str)), EqA (strV ([42] : Str)), EqA (strV ([60] : Str)), EqA (strV ([62] : Str)), EqA (strV ([33] : Str)), EqA (strV ([38] : Str)), EqA (strV ([124] : Str)), EqA (strV ([46] : Str)), EqA (strV ([63] : Str))]) (ys := [([45, 62] : Str), ([60, 61] : Str), ([62, 61] : Str), ([61, 61] : Str), ([33, 61] : Str), ([123] : Str), ([125] : Str), ([40] : Str), ([41] : Str), ([91] : Str), ([93] : Str), ([44] : Str), ([59] : Str), ([58] : Str), ([61] : Str), ([43] : Str), ([45] : Str), ([42] : Str), ([60] : Str), ([62] : Str), ([33] : Str), ([38] : Str), ([124] : Str), ([46] : Str), ([63] : Str)]) R R el93 R gr9 R R R (.cons (qW R) (.cons (qW R) (.cons (qW R) (.cons (qW R) (.cons (qW R) (.cons (qW R) (.cons (qW R) (.cons (qW R) (.cons (qW R) (.cons (qW R) (.cons (qW R) (.cons (qW R) (.cons (qW R) (.cons (qW R) (.cons (qW R) (.cons (qW R) (.cons (qW R) (.cons (qW R) (.cons (qW R) (.cons (qW R) (.cons (qW R) (.cons (qW R) (.cons (qW R) (.cons (qW R) (.cons (qW R) .nil)))))))))))))))))))))))))) <| av R R <| nt <| vq ?_
 cases h
 exact vW R R (.t R) (.id _)
theorem ref01_one.con (k : Nat) (a0 : Str) (a1 : Int) (r : (Token × Int × Int)) (h : ref01_one k a0 a1 = some r) : Con Tryz.prog 203 [] [EqA (strV a0), iA a1] (RA (TupA [AggA [iA r.1.fKind, EqA (strV r.1.fText), iA r.1.fLine], iA r.2.1, iA r.2.2])) := by
 unfold ref01_one at h
 refine vJ (N := 110) Tryz.func203 R R R fun w0_ fg_ => sr <| WL.w [] R (qj R) R R .nil (w_alloc R z226 (l := [iA 0, EqA (strV ([] : Str)), iA 0]) R) ?_
 rintro _ _ ⟨b100, rfl, rfl⟩
 refine ak R <| ak R <| nx <| mv R R <| mv R R ?_
 obtain ⟨c101, h⟩ := qK h
 refine p2 R 14 R 15 R (q_sindex R iss9 c101.1 c101.2) <| av R R <| nt <| qX <| qX ?_
 refine W.jn1 (Γ := Unit) (fun (_ : Unit) (x22 : Bool) => [(0, EqA (strV a0)), (1, iA a1), (4, EqA (.pointer (some ⟨b100, 0, none⟩))), (7, EqA (.int .u8 (bt a0 a1))), (22, bA x22)]) (fun (_ : Unit) (_ : Bool) => [BoxE b100 [iA 0, EqA (strV ([] : Str)), iA 0]]) h (fun _ x22 h => ?_) (fun j106 Kj106 h => ?_)
 ·refine qq ?_
  refine qZ h R (fun hb107 h => ?_) (fun hb107 h => ?_)
  ·refine sr <| mv R R <| mv R R <| mv R R ?_
   obtain ⟨t108, ht108, h⟩ := vw h
   refine p1 R 25 R (vy (f := 221) (A := bA t108) (xs := [.tmp 25]) («as» := [EqA (.int .u8 (bt a0 a1))]) R ca221 (ref01_digit.con k (bt a0 a1) t108 ht108) R) ?_
   obtain ⟨t109, ht109, h⟩ := vw h
   refine WL.p R R R (.s 23 R (.s 24 R (.s 26 R .nil))) (vy (f := 222) (A := iA t109) (xs := [.tmp 23, .tmp 24, .tmp 26]) («as» := [EqA (strV a0), iA a1, bA t108]) R ca222 (ref01_run.con k a0 a1 t108 t109 ht109) R) <| av R R <| nx <| ak R <| ak R <| nt <| qX <| sr ?_
   refine mv R R ?_
   obtain ⟨t110, ht110, h⟩ := vw h
   refine p1 R 28 R (vy (f := 221) (A := bA t110) (xs := [.tmp 28]) («as» := [EqA (.int .u8 (bt a0 a1))]) R ca221 (ref01_digit.con k (bt a0 a1) t110 ht110) R) <| qx <| qw (env' := [(29, _), (10, _), (9, _), (8, _), (4, _), (1, _), (0, _)]) (.o4 R (.o2 R (.one R (.nil _)))) <| qq ?_
   refine W.jn2 (Γ := Unit) (fun (_ : Unit) (x9 : Int) (x10 : Int) => [(0, EqA (strV a0)), (1, iA a1), (4, EqA (.pointer (some ⟨b100, 0, none⟩))), (8, iA t109), (9, iA x9), (10, iA x10)]) (fun (_ : Unit) (_ : Int) (_ : Int) => [BoxE b100 [iA 0, EqA (strV ([] : Str)), iA 0]]) h (fun _ x9 x10 h => ?_) (fun j113 Kj113 h => ?_)
   ·refine qq <| qX <| sr <| mv R R <| mv R R <| p2 R 30 R 31 R (qN R R) <| nt ?_
    refine qZ h R (fun hb114 h => ?_) (fun hb114 h => ?_)
    ·refine sr <| WL.p R R R .nil (q_build (is := []) (xs := []) (L := [iA 0, EqA (strV ([] : Str)), iA 0]) R R z226 pl226 R R .nil R) <| WL.w0 [0] R (qj R) R (.s 4 R (.s 33 R .nil)) (w_store (L := [iA 0, EqA (strV ([] : Str)), iA 0]) R sh226 (qy _) R R (leB R) R) ?_
     rintro _ _ ⟨rfl, rfl⟩
     refine ak R <| ak R <| qx <| qw (env' := [(6, _), (5, _), (4, _)]) (.o2 R (.one R (.nil _))) <| qq <| vq <| qQ <| qQ ?_
     cases h
     exact QR.f3 R R (.cs (i := 0) R sh226 R R) (.t R) (.t R) (.id _)
    ·refine qB <| qq <| sr <| mv R R <| mv R R <| mv R R <| mv R R <| mv R R ?_
     obtain ⟨c115, h⟩ := qK h
     refine p2 R 37 R 38 R (vK R c115) ?_
     obtain ⟨c116, h⟩ := qK h
     refine WL.p R R R (.s 35 R (.s 36 R (.s 39 R .nil))) (q_ssubLH R iss9 c116.1 c116.2.1 c116.2.2) <| p2 R 34 R 40 R (q_build (is := [0, 1]) (xs := [.tmp 34, .tmp 40]) (L := [iA x9, EqA (strV ((a0.take ((a1 + t109) : Int).toNat).drop (a1 : Int).toNat)), iA 0]) R R z226 pl226 R R (.cons (qW R) (.cons (qW R) .nil)) R) <| mv R R <| WL.w0 [0] R (qj R) R (.s 4 R (.s 41 R .nil)) (w_store (L := [iA x9, EqA (strV ((a0.take ((a1 + t109) : Int).toNat).drop (a1 : Int).toNat)), iA 0]) R sh226 (qy _) R R (leB R) R) ?_
     rintro _ _ ⟨rfl, rfl⟩
     refine av R R <| ak R <| qx <| qw (env' := [(6, _), (5, _), (4, _)]) (.o2 R (.one R (.nil _))) <| qq <| vq <| qQ ?_
     cases h
     exact QR.f3 R R (.cs (i := 0) R sh226 R R) (.t R) (.t R) (.id _)
   ·refine qZ h R (fun hb117 h => ?_) (fun hb117 h => ?_)
    ·refine qJ <| ak R <| ak R <| qx ?_
     exact qw (.o4 R (.o2 R (.nil _))) (Kj113 () 2 9 h)
    ·refine qB ?_
     exact qw (.o4 R (.o2 R (.nil _))) (Kj113 () 1 20 h)
  ·refine qB <| qq <| qX <| sr <| mv R R <| pk R 43 R (qN R R) <| nt ?_
   refine qZ h R (fun hb118 h => ?_) (fun hb118 h => ?_)
   ·refine sr <| mv R R <| mv R R ?_
    obtain ⟨t119, ht119, h⟩ := vw h
    refine p2 R 45 R 46 R (vy (f := 223) (A := iA t119) (xs := [.tmp 45, .tmp 46]) («as» := [EqA (strV a0), iA a1]) R ca223 (ref01_quoted.con k a0 a1 t119 ht119) R) <| av R R <| qx <| qw (env' := [(11, _), (4, _), (1, _), (0, _)]) (.o4 R (.nil _)) <| qq <| qX <| sr <| mv R R <| pk R 48 R (qN R R) <| nt ?_
    refine qZ h R (fun hb120 h => ?_) (fun hb120 h => ?_)
    ·refine sr <| WL.p R R R .nil (q_build (is := []) (xs := []) (L := [iA 0, EqA (strV ([] : Str)), iA 0]) R R z226 pl226 R R .nil R) <| WL.w0 [0] R (qj R) R (.s 4 R (.s 50 R .nil)) (w_store (L := [iA 0, EqA (strV ([] : Str)), iA 0]) R sh226 (qy _) R R (leB R) R) ?_
     rintro _ _ ⟨rfl, rfl⟩
     refine ak R <| ak R <| nt <| vq <| qQ <| qQ ?_
     cases h
     exact QR.f3 R R (.cs (i := 0) R sh226 R R) (.t R) (.t R) (.id _)
    ·refine qB <| qq <| qX <| sr <| mv R R ?_
     obtain ⟨c121, h⟩ := qK h
     refine pk R 51 R (q_subR R c121) <| pk R 52 R (qN R R) <| nt ?_
     refine qZ h R (fun hb122 h => ?_) (fun hb122 h => ?_)
     ·refine sr <| WL.p R R R .nil (q_build (is := []) (xs := []) (L := [iA 0, EqA (strV ([] : Str)), iA 0]) R R z226 pl226 R R .nil R) <| WL.w0 [0] R (qj R) R (.s 4 R (.s 54 R .nil)) (w_store (L := [iA 0, EqA (strV ([] : Str)), iA 0]) R sh226 (qy _) R R (leB R) R) ?_
      rintro _ _ ⟨rfl, rfl⟩
      refine ak R <| ak R <| qx <| qw (env' := [(6, _), (5, _), (4, _)]) (.o2 R (.one R (.nil _))) <| qq <| vq <| qQ <| qQ ?_
      cases h
      exact QR.f3 R R (.cs (i := 0) R sh226 R R) (.t R) (.t R) (.id _)
     ·refine qB <| qq <| sr <| mv R R <| mv R R ?_
      obtain ⟨c123, h⟩ := qK h
      refine pk R 56 R (vK R c123) <| mv R R <| mv R R ?_
      obtain ⟨c124, h⟩ := qK h
      refine p2 R 58 R 59 R (vK R c124) ?_
      obtain ⟨c125, h⟩ := qK h
      refine pk R 60 R (q_subR R c125) ?_
      obtain ⟨c126, h⟩ := qK h
      refine WL.p R R R (.s 55 R (.s 57 R (.s 61 R .nil))) (q_ssubLH R iss9 c126.1 c126.2.1 c126.2.2) <| WL.p R R R (.k (.s 62 R .nil)) (q_build (is := [0, 1]) (xs := [.const (.int .i64 3), .tmp 62]) (L := [iA 3, EqA (strV ((a0.take (((a1 + t119) - 1) : Int).toNat).drop ((a1 + 1) : Int).toNat)), iA 0]) R R z226 pl226 R R (.cons (qW R) (.cons (qW R) .nil)) R) <| mv R R <| WL.w0 [0] R (qj R) R (.s 4 R (.s 63 R .nil)) (w_store (L := [iA 3, EqA (strV ((a0.take (((a1 + t119) - 1) : Int).toNat).drop ((a1 + 1) : Int).toNat)), iA 0]) R sh226 (qy _) R R (leB R) R) ?_
      rintro _ _ ⟨rfl, rfl⟩
      refine av R R <| ak R <| qx <| qw (env' := [(6, _), (5, _), (4, _)]) (.o2 R (.one R (.nil _))) <| qq <| vq <| qQ ?_
      cases h
      exact QR.f3 R R (.cs (i := 0) R sh226 R R) (.t R) (.t R) (.id _)
   ·refine qB <| qq <| sr ?_
    obtain ⟨t127, ht127, h⟩ := vw h
    refine WL.p R R R .nil (vy (f := 224) (A := SlcA kStr t127) (xs := []) («as» := []) R ca224 (ref01_signs.con k  t127 ht127) R) <| av R R <| nt <| qX <| sr <| ak R <| nt <| vx ?_
    refine W.loop1 (Γ := Unit) (fun (_ : Unit) (x13 : Int) => [(0, EqA (strV a0)), (1, iA a1), (4, EqA (.pointer (some ⟨b100, 0, none⟩))), (12, SlcA kStr t127), (13, iA x13)]) (fun (_ : Unit) (_ : Int) => [BoxE b100 [iA 0, EqA (strV ([] : Str)), iA 0]]) h () (.o4 R (.one R (.nil _))) R (fun rec0 K0 next0 _ x13 h => ?_)
    unfold ref01_one.b0 at h
    refine qX <| sr <| mv R R <| mv R R <| p1 R 67 R (vN R elS93) <| p2 R 66 R 68 R (qN R R) <| nt ?_
    refine qZ h R (fun hb192 h => ?_) (fun hb192 h => ?_)
    ·refine qB <| qq <| qX <| vx <| qX ?_
     refine W.jn1 (Γ := Unit) (fun (_ : Unit) (x98 : Bool) => [(0, EqA (strV a0)), (1, iA a1), (4, EqA (.pointer (some ⟨b100, 0, none⟩))), (12, SlcA kStr t127), (13, iA x13), (98, bA x98)]) (fun (_ : Unit) (_ : Bool) => [BoxE b100 [iA 0, EqA (strV ([] : Str)), iA 0]]) h (fun _ x98 h => ?_) (fun j208 Kj208 h => ?_)
     ·refine qq ?_
      refine qZ h R (fun hb209 h => ?_) (fun hb209 h => ?_)
      ·refine qX <| W.drawK [(0, false), (1, false), (2, false), (3, false), (4, false), (5, false), (6, false), (7, false), (8, false), (9, false)] [10, 11, 12] (bm [0, 0, 3, 7, 15, 0, 0, 96, 224, 480, 31, 2047, 4095]) mx (by kernel_rfl) <| dm R R R <| dm R R R ?_
       obtain ⟨c214, h⟩ := qK h
       refine qz R R (.p R (.s 99 R (.s 100 R .nil)) R (vX R el93 R c214.1 c214.2)) <| dl R R R sh9 <| qz R R (.p R (.k (.s 102 R .nil)) R (q_build (is := [0, 1]) (xs := [.const (.int .i64 4), .tmp 102]) (L := [iA 4, EqA (strV (rd t127 x13)), iA 0]) R R z226 pl226 R R (.cons (qW R) (.cons (qW R) .nil)) R)) <| dm R R R <| dm R R R ?_
       obtain ⟨c215, h⟩ := qK h
       refine qz R R (.p R (.s 104 R (.s 105 R .nil)) R (vX R el93 R c215.1 c215.2)) <| dl R R R sh9 <| qz R R (.p R (.s 107 R .nil) R (q_slen (s := (rd t127 x13)) R iss9)) <| DK.nil <| CSteps.w0 [0] R R R (.s 4 R (.s 103 R .nil)) R (w_store (L := [iA 4, EqA (strV (rd t127 x13)), iA 0]) R sh226 (qy _) R R (leB R) R) ?_
       rintro _ _ ⟨rfl, rfl⟩
       refine CSteps.p R R R (.s 108 R .nil) R (q_assign R) <| CSteps.p R R R (.k .nil) R (q_assign R) <| CSteps.nil <| qw (env' := [(6, _), (5, _), (4, _)]) (.o2 R (.one R (.nil _))) <| qq <| vq <| vz <| qQ <| qQ <| vz <| qQ ?_
       cases h
       exact QR.f3 R R (.cs (i := 0) R sh226 R R) (.t R) (.t R) (.id _)
      ·refine qB <| vZ <| qq <| qJ <| mv R R ?_
       obtain ⟨c216, h⟩ := qK h
       refine pk R 70 R (vK R c216) <| av R R <| qx ?_
       exact next0 () (x13 + 1) _ h (.o4 R (.one R (.nil _)))
     ·refine W.drawK [(0, false), (1, false), (2, false), (3, false), (4, false), (5, false), (6, false), (7, false), (8, false), (9, false), (10, false), (11, false), (12, false), (13, false), (14, false), (15, false), (16, false), (17, false), (18, false), (19, false), (20, false), (21, false), (22, false), (23, false), (24, false), (25, false), (26, false)] [] (bm [0, 0, 0, 6, 14, 30, 63, 0, 128, 511, 1023, 2047, 2047, 2047, 2047, 2047, 51199, 116735, 247807, 518143, 1048575, 2047, 2047, 6293503, 14682111, 33554431, 67108863]) mx (by kernel_rfl) <| dm R R R <| dm R R R <| dm R R R ?_
      obtain ⟨c217, h⟩ := qK h
      refine qz R R (.p R (.s 73 R (.s 74 R .nil)) R (vX R el93 R c217.1 c217.2)) <| dl R R R sh9 <| qz R R (.p R (.s 76 R .nil) R (q_slen (s := (rd t127 x13)) R iss9)) ?_
      obtain ⟨c218, h⟩ := qK h
      refine qz R R (.p R (.s 72 R (.s 77 R .nil)) R (vK R c218)) <| dm R R R <| qz R R (.p R (.s 79 R .nil) R (q_slen (s := a0) R iss9)) <| qz R R (.p R (.s 78 R (.s 80 R .nil)) R (qN R R)) <| dm R R R ?_
      rcases bif_s h with ⟨hb219, h⟩ | ⟨hb219, h⟩
      ·refine qz R R (.gp R R R hb219 (.s 0 R .nil) R (q_move R)) <| qz R R (.gp R R R hb219 (.s 1 R .nil) R (q_move R)) <| qz R R (.gp R R R hb219 (.s 1 R .nil) R (q_move R)) <| qz R R (.gp R R R hb219 (.s 12 R .nil) R (q_move R)) <| qz R R (.gp R R R hb219 (.s 13 R .nil) R (q_move R)) ?_
       obtain ⟨c220, h⟩ := qK h
       refine qz R R (.gp R R R hb219 (.s 86 R (.s 87 R .nil)) R (vX R el93 R c220.1 c220.2)) <| qz R R (.gp R R R hb219 (.s 88 R .nil) R (q_load R sh9)) <| qz R R (.gp R R R hb219 (.s 89 R .nil) R (q_slen (s := (rd t127 x13)) R iss9)) ?_
       obtain ⟨c221, h⟩ := qK h
       refine qz R R (.gp R R R hb219 (.s 85 R (.s 90 R .nil)) R (vK R c221)) ?_
       obtain ⟨c222, h⟩ := qK h
       refine qz R R (.gp R R R hb219 (.s 83 R (.s 84 R (.s 91 R .nil))) R (q_ssubLH R iss9 c222.1 c222.2.1 c222.2.2)) <| qz R R (.gp R R R hb219 (.s 12 R .nil) R (q_move R)) <| qz R R (.gp R R R hb219 (.s 13 R .nil) R (q_move R)) ?_
       obtain ⟨c223, h⟩ := qK h
       refine qz R R (.gp R R R hb219 (.s 93 R (.s 94 R .nil)) R (vX R el93 R c223.1 c223.2)) <| qz R R (.gp R R R hb219 (.s 95 R .nil) R (q_load R sh9)) <| qz R R (.gp R R R hb219 (.s 92 R (.s 96 R .nil)) R (q_str (s := ((a0.take ((a1 + ((rd t127 x13).length : Int)) : Int).toNat).drop (a1 : Int).toNat)) (t := (rd t127 x13)) R)) <| qz R R (.p R (.s 82 R (.s 97 R .nil)) R (vQ R hb219)) <| DK.nil <| CSteps.nil ?_
       exact qw (.o4 R (.o2 R (.nil _))) (Kj208 () (((a0.take ((a1 + ((rd t127 x13).length : Int)) : Int).toNat).drop (a1 : Int).toNat) == (rd t127 x13)) h)
      ·refine dx R R R hb219 <| dx R R R hb219 <| dx R R R hb219 <| dx R R R hb219 <| dx R R R hb219 <| dx R R R hb219 <| dx R R R hb219 <| dx R R R hb219 <| dx R R R hb219 <| dx R R R hb219 <| dx R R R hb219 <| dx R R R hb219 <| dx R R R hb219 ?_
       refine dx R R R hb219 <| dx R R R hb219 <| qz R R (.p R (.s 82 R (.k .nil)) R (vj R hb219)) <| DK.nil <| CSteps.nil ?_
       exact qw (.o4 R (.o2 R (.nil _))) (Kj208 () false h)
    ·refine W.exit <| qV <| qV <| vB <| qw (env' := [(4, _)]) (.one R (.nil _)) <| qq <| sr <| WL.p R R R .nil (q_build (is := []) (xs := []) (L := [iA 0, EqA (strV ([] : Str)), iA 0]) R R z226 pl226 R R .nil R) <| WL.w0 [0] R (qj R) R (.s 4 R (.s 109 R .nil)) (w_store (L := [iA 0, EqA (strV ([] : Str)), iA 0]) R sh226 (qy _) R R (leB R) R) ?_
     rintro _ _ ⟨rfl, rfl⟩
     refine ak R <| ak R <| nt <| vq ?_
     cases h
     exact QR.f3 R R (.cs (i := 0) R sh226 R R) (.t R) (.t R) (.id _)
 ·refine qJ <| mv R R ?_
  obtain ⟨t224, ht224, h⟩ := vw h
  refine p1 R 17 R (vy (f := 220) (A := bA t224) (xs := [.tmp 17]) («as» := [EqA (.int .u8 (bt a0 a1))]) R ca220 (ref01_letter.con k (bt a0 a1) t224 ht224) R) <| mv R R ?_
  rcases bif_s h with ⟨hb225, h⟩ | ⟨hb225, h⟩
  ·refine sk R R R hb225 <| sk R R R hb225 <| pk R 19 R (vQ R hb225) <| qx ?_
   exact qw (.o4 R (.one R (.nil _))) (Kj106 () true h)
  ·refine wm R R R hb225 R R ?_
   obtain ⟨t226, ht226, h⟩ := vw h
   refine wq R R R hb225 (.s 20 R .nil) (vy (f := 221) (A := bA t226) (xs := [.tmp 20]) («as» := [EqA (.int .u8 (bt a0 a1))]) R ca221 (ref01_digit.con k (bt a0 a1) t226 ht226) R).o <| p2 R 19 R 21 R (vj R hb225) <| qx ?_
   exact qw (.o4 R (.one R (.nil _))) (Kj106 () t226 h)
end Go.Proofs.YtcgdfjpeboiioaaGreat
