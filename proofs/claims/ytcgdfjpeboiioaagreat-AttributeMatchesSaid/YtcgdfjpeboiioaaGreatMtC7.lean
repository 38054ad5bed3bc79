import Derived.Test.YtcgdfjpeboiioaaGreatMtC6
namespace Go.Proofs.YtcgdfjpeboiioaaGreat
open Go Go.Abs
attribute [local irreducible] Tryz.prog
theorem ref21_SameMatches.con (k : Nat) (a0 : (List Match)) (a1 : (List Match)) (r : Bool) (h : ref21_SameMatches k a0 a1 = some r) : Con Tryz.prog 31 [] [SlcA kMatch a0, SlcA kMatch a1] (RA (bA r)) := by
 unfold ref21_SameMatches at h
 refine vZ (N := 27) Tryz.func31 R R R fun w0_ fg_ => sr <| ak R <| nt <| qX <| sr <| mv R R <| p1 R 6 R (vB R elS71) <| mv R R <| p1 R 8 R (vB R elS71) ?_
 refine p2 R 7 R 9 R (qB R R) <| nt ?_
 refine qZ h R (fun hb100 h => ?_) (fun hb100 h => ?_)
 ·refine sr <| ak R <| qz <| qw (env' := [(4, _)]) (.one R (.nil _)) <| qq <| vq <| qy ?_
  cases h
  exact vW R R (.t R) (.id _)
 ·refine qK <| qq <| qX <| sr <| ak R <| nt <| vy ?_
  refine W.loop1 (Γ := Unit) (fun (_ : Unit) (x5 : Int) => [(0, SlcA kMatch a0), (1, SlcA kMatch a1), (5, iA x5)]) (fun (_ : Unit) (_ : Int) => []) h () (.o2 R (.one R (.nil _))) R (fun rec0 K0 next0 _ x5 h => ?_)
  unfold ref21_SameMatches.b0 at h
  refine qX <| sr <| mv R R <| mv R R <| p1 R 12 R (vB R elS71) <| p2 R 11 R 13 R (qB R R) <| nt ?_
  refine qZ h R (fun hb125 h => ?_) (fun hb125 h => ?_)
  ·refine qK <| qq <| qX <| vy <| qX <| W.drawK [(0, false), (1, false), (2, false), (3, false), (4, false), (5, false), (6, false), (7, false), (8, false), (9, false)] [] (bm [0, 0, 3, 7, 0, 0, 48, 112, 255, 511]) mx (by kernel_rfl) <| dm R R R <| dm R R R ?_
   obtain ⟨c132, h⟩ := qV h
   refine qx R R (.p R (.s 17 R (.s 18 R .nil)) R (vX R el71 R c132.1 c132.2)) <| qx R R (.p R (.s 19 R .nil) R (q_loadS R sh76 (leB R) R)) <| dm R R R <| dm R R R ?_
   obtain ⟨c133, h⟩ := qV h
   refine qx R R (.p R (.s 21 R (.s 22 R .nil)) R (vX R el71 R c133.1 c133.2)) <| qx R R (.p R (.s 23 R .nil) R (q_loadS R sh76 (leB R) R)) ?_
   obtain ⟨t134, ht134, h⟩ := vx h
   refine qx R R (.p R (.s 20 R (.s 24 R .nil)) R (vQ (f := 80) (A := bA t134) (xs := [.tmp 20, .tmp 24]) («as» := [AggA [SlcA kInt ((rd a0 x5).fMorphism.fNodes), SlcA kInt ((rd a0 x5).fMorphism.fEdges), SlcA kInt ((rd a0 x5).fVars)], AggA [SlcA kInt ((rd a1 x5).fMorphism.fNodes), SlcA kInt ((rd a1 x5).fMorphism.fEdges), SlcA kInt ((rd a1 x5).fVars)]]) R ca80 (ref21_SameMatch.con k (rd a0 x5) (rd a1 x5) t134 ht134) R)) <| qx R R (.p R (.s 25 R .nil) R (q_not R)) <| DK.nil <| CSteps.nil <| qw (env' := [(26, _), (5, _), (1, _), (0, _)]) (.o4 R (.nil _)) <| qq ?_
   refine qZ h R (fun hb135 h => ?_) (fun hb135 h => ?_)
   ·refine sr <| ak R <| nt <| vq <| vj <| qy <| qy <| vj <| qy ?_
    cases h
    exact vW R R (.t R) (.id _)
   ·refine qK <| vJ <| qq <| qJ <| mv R R ?_
    obtain ⟨c136, h⟩ := qV h
    refine pk R 15 R (vV R c136) <| av R R <| qz ?_
    exact next0 () (x5 + 1) _ h (.o2 R (.one R (.nil _)))
  ·refine bz <| qN <| qN <| bq <| qw (env' := []) (.nil _) <| qq <| sr <| ak R <| nt <| vq ?_
   cases h
   exact vW R R (.t R) (.id _)
theorem law21_awake.con (k : Nat) (r : Bool) (h : law21_awake k = some r) : Con Tryz.prog 9 [] [] (RA (bA r)) := by
 unfold law21_awake at h
 refine vZ (N := 44) Tryz.func9 R R R fun w0_ fg_ => sr <| ak R <| nx ?_
 obtain ⟨t100, ht100, h⟩ := vx h
 refine WL.p R R R .nil (vQ (f := 37) (A := AggA [SlcA kNodeType t100.fNodes, SlcA kEdgeType t100.fEdges]) (xs := []) («as» := []) R ca37 (ref04_Example.con k  t100 ht100) R) <| WL.p R R R (.k .nil) (q_build (is := [0]) (xs := [.const (.int .i64 0)]) (L := [iA 0, iA 0]) R R z23 pl23 R R (.cons (qW R) .nil) R) <| WL.p R R R (.k (.k .nil)) (q_build (is := [0, 1]) (xs := [.const (.int .i64 1), .const (.int .i64 4)]) (L := [iA 1, iA 4]) R R z23 pl23 R R (.cons (qW R) (.cons (qW R) .nil)) R) <| WL.p R R R (.k (.s 7 R (.s 8 R .nil))) (q_build (is := [0, 1, 2]) (xs := [.const (.int .i64 1), .tmp 7, .tmp 8]) (L := [iA 1, iA 0, iA 0, iA 1, iA 4]) R R z86 pl86 R R (.cons (qW R) (.cons (qj _) (.cons (qj _) .nil))) R) ?_
 obtain ⟨t101, ht101, h⟩ := vx h
 refine p1 R 9 R (vQ (f := 38) (A := AggA [SlcA kInt t101.fGraph.fNodes, SlcA kEdge t101.fGraph.fEdges, SlcA kSlot t101.fSlots, iA t101.fVars, SlcA kTest t101.fTests]) (xs := [.tmp 9]) («as» := [AggA [iA 1, iA 0, iA 0, iA 1, iA 4]]) R ca38 (law21_two.con k (Test.mk 1 (Term.mk 0 0) (Term.mk 1 4)) t101 ht101) R) ?_
 obtain ⟨t102, ht102, h⟩ := vx h
 refine WL.p R R R .nil (vQ (f := 39) (A := AggA [SlcA kInt t102.fGraph.fNodes, SlcA kEdge t102.fGraph.fEdges, SlcA (kSl kInt) t102.fValues]) (xs := []) («as» := []) R ca39 (law21_bank.con k  t102 ht102) R) ?_
 obtain ⟨t103, ht103, h⟩ := vx h
 refine WL.p R R R (.s 6 R (.s 10 R (.s 11 R (.k .nil)))) (vQ (f := 29) (A := TupA [SlcA kMatch t103.1, iA t103.2]) (xs := [.tmp 6, .tmp 10, .tmp 11, .const (.bool true)]) («as» := [AggA [SlcA kNodeType t100.fNodes, SlcA kEdgeType t100.fEdges], AggA [SlcA kInt t101.fGraph.fNodes, SlcA kEdge t101.fGraph.fEdges, SlcA kSlot t101.fSlots, iA t101.fVars, SlcA kTest t101.fTests], AggA [SlcA kInt t102.fGraph.fNodes, SlcA kEdge t102.fGraph.fEdges, SlcA (kSl kInt) t102.fValues], bA true]) R ca29 (attribute_Matches.con k t100 t101 t102 true t103 ht103) R) <| mv R R <| p1 R 5 R (vK R R) <| p1 R 5 R (vK R R) <| av R R <| av R R <| qz <| qw (env' := [(2, _), (1, _)]) (.o2 R (.nil _)) <| qq <| sr ?_
 obtain ⟨t104, ht104, h⟩ := vx h
 refine WL.p R R R .nil (vQ (f := 37) (A := AggA [SlcA kNodeType t104.fNodes, SlcA kEdgeType t104.fEdges]) (xs := []) («as» := []) R ca37 (ref04_Example.con k  t104 ht104) R) <| WL.p R R R (.k (.k .nil)) (q_build (is := [0, 1]) (xs := [.const (.int .i64 (-1)), .const (.int .i64 2000)]) (L := [iA (-1), iA 2000]) R R z23 pl23 R R (.cons (qW R) (.cons (qW R) .nil)) R) <| WL.p R R R (.k .nil) (q_build (is := [0]) (xs := [.const (.int .i64 0)]) (L := [iA 0, iA 0]) R R z23 pl23 R R (.cons (qW R) .nil) R) <| WL.p R R R (.k (.s 17 R (.s 18 R .nil))) (q_build (is := [0, 1, 2]) (xs := [.const (.int .i64 1), .tmp 17, .tmp 18]) (L := [iA 1, iA (-1), iA 2000, iA 0, iA 0]) R R z86 pl86 R R (.cons (qW R) (.cons (qj _) (.cons (qj _) .nil))) R) ?_
 obtain ⟨t105, ht105, h⟩ := vx h
 refine p1 R 19 R (vQ (f := 38) (A := AggA [SlcA kInt t105.fGraph.fNodes, SlcA kEdge t105.fGraph.fEdges, SlcA kSlot t105.fSlots, iA t105.fVars, SlcA kTest t105.fTests]) (xs := [.tmp 19]) («as» := [AggA [iA 1, iA (-1), iA 2000, iA 0, iA 0]]) R ca38 (law21_two.con k (Test.mk 1 (Term.mk (-1) 2000) (Term.mk 0 0)) t105 ht105) R) ?_
 obtain ⟨t106, ht106, h⟩ := vx h
 refine p2 R 16 R 20 R (vQ (f := 15) (A := TupA [SlcA kUse t106.1, iA t106.2]) (xs := [.tmp 16, .tmp 20]) («as» := [AggA [SlcA kNodeType t104.fNodes, SlcA kEdgeType t104.fEdges], AggA [SlcA kInt t105.fGraph.fNodes, SlcA kEdge t105.fGraph.fEdges, SlcA kSlot t105.fSlots, iA t105.fVars, SlcA kTest t105.fTests]]) R ca15 (attribute_Contradiction.con k t104 t105 t106 ht106) R) <| mv R R <| p1 R 15 R (vK R R) <| p1 R 15 R (vK R R) <| av R R <| av R R <| qz <| qw (env' := [(4, _), (3, _), (2, _), (1, _)]) (.o4 R (.nil _)) <| qq <| qX ?_
 refine W.jn1 (Γ := Unit) (fun (_ : Unit) (x0 : Bool) => [(0, bA x0)]) (fun (_ : Unit) (_ : Bool) => []) h (fun _ x0 h => ?_) (fun j112 Kj112 h => ?_)
 ·refine qq <| vq ?_
  cases h
  exact vW R R (.t R) (.id _)
 ·refine qJ <| mv R R <| pk R 24 R (qB R R) <| mv R R ?_
  rcases bif_s h with ⟨hb113, h⟩ | ⟨hb113, h⟩
  ·refine wm R R R hb113 R R <| wq R R R hb113 (.k (.k .nil)) (q_lit (kd := kInt) (ps := [(0, .const (.int .i64 2)), (1, .const (.int .i64 1))]) (xs := [.const (.int .i64 2), .const (.int .i64 1)]) («as» := [iA 2, iA 1]) (ys := [2, 1]) R R el26 R gr3 R R R (.cons (qW R) (.cons (qW R) .nil))).o <| wq R R R hb113 (.s 28 R .nil) (q_build (is := [0]) (xs := [.tmp 28]) (L := [SlcA kInt [2, 1], EqA (.slice none 0 0)]) R R z64 pl64 R R (.cons (qW R) .nil) R).o <| wq R R R hb113 (.k (.k .nil)) (q_lit (kd := kInt) (ps := [(0, .const (.int .i64 5)), (1, .const (.int .i64 10))]) (xs := [.const (.int .i64 5), .const (.int .i64 10)]) («as» := [iA 5, iA 10]) (ys := [5, 10]) R R el26 R gr3 R R R (.cons (qW R) (.cons (qW R) .nil))).o <| wq R R R hb113 (.s 29 R (.s 30 R .nil)) (q_build (is := [0, 1]) (xs := [.tmp 29, .tmp 30]) (L := [SlcA kInt [2, 1], EqA (.slice none 0 0), SlcA kInt [5, 10]]) R R z76 pl76 R R (.cons (qj _) (.cons (qW R) .nil)) R).o <| wq R R R hb113 (.s 31 R .nil) (QS.args (q_lit (kd := kMatch) (ps := [(0, .tmp 31)]) (xs := [.tmp 31]) («as» := [AggA [SlcA kInt [2, 1], SlcA kInt [], SlcA kInt [5, 10]]]) (ys := [(Match.mk (Morphism.mk [2, 1] []) [5, 10])]) R R el71 R gr76 R R R (.cons (qj _) .nil)) (.cons (Imp.agg (.cons (Imp.id _) (.cons (Imp.nil kInt) (.cons (Imp.id _) .nil)))) .nil)).o ?_
   obtain ⟨t114, ht114, h⟩ := vx h
   refine wq R R R hb113 (.s 27 R (.s 32 R .nil)) (vQ (f := 31) (A := bA t114) (xs := [.tmp 27, .tmp 32]) («as» := [SlcA kMatch t103.1, SlcA kMatch ([(Match.mk (Morphism.mk [2, 1] []) [5, 10])])]) R ca31 (ref21_SameMatches.con k t103.1 ([(Match.mk (Morphism.mk [2, 1] []) [5, 10])]) t114 ht114) R).o <| p2 R 26 R 33 R (vz R hb113) <| mv R R ?_
   rcases bif_s h with ⟨hb115, h⟩ | ⟨hb115, h⟩
   ·refine wm R R R hb115 R R <| wq R R R hb115 (.s 36 R (.k .nil)) (qB R R).o <| p2 R 35 R 37 R (vz R hb115) <| mv R R ?_
    rcases bif_s h with ⟨hb116, h⟩ | ⟨hb116, h⟩
    ·refine wm R R R hb116 R R <| wq R R R hb116 (.s 40 R .nil) (vB R elS45).o <| wq R R R hb116 (.s 41 R (.k .nil)) (qB R R).o <| p2 R 39 R 42 R (vz R hb116) <| av R R <| qz ?_
     exact qw (.one R (.nil _)) (Kj112 () ((t106.1.length : Int) == 2) h)
    ·refine sk R R R hb116 <| sk R R R hb116 <| sk R R R hb116 <| pk R 39 R (vw R hb116) <| av R R <| qz ?_
     exact qw (.one R (.nil _)) (Kj112 () false h)
   ·refine sk R R R hb115 <| sk R R R hb115 <| pk R 35 R (vw R hb115) <| mv R R <| sk R R R R <| sk R R R R <| sk R R R R <| pk R 39 R (vw R R) <| av R R <| qz ?_
    exact qw (.one R (.nil _)) (Kj112 () false h)
  ·refine sk R R R hb113 <| sk R R R hb113 <| sk R R R hb113 <| sk R R R hb113 <| sk R R R hb113 <| sk R R R hb113 <| sk R R R hb113 <| pk R 26 R (vw R hb113) <| mv R R <| sk R R R R <| sk R R R R <| pk R 35 R (vw R R) <| mv R R ?_
   refine sk R R R R <| sk R R R R <| sk R R R R <| pk R 39 R (vw R R) <| av R R <| qz ?_
   exact qw (.one R (.nil _)) (Kj112 () false h)
theorem ref05_Few.con (k : Nat) (a0 : Graph) (r : Bool) (h : ref05_Few k a0 = some r) : Con Tryz.prog 43 [] [AggA [SlcA kInt a0.fNodes, SlcA kEdge a0.fEdges]] (RA (bA r)) := by
 unfold ref05_Few at h
 refine vZ (N := 13) Tryz.func43 R R R fun w0_ fg_ => sr <| p1 R 0 R (bx R (qj _)) <| ak R <| nt <| qX ?_
 refine W.jn1 (Γ := Unit) (fun (_ : Unit) (x2 : Bool) => [(2, bA x2)]) (fun (_ : Unit) (_ : Bool) => []) h (fun _ x2 h => ?_) (fun j102 Kj102 h => ?_)
 ·refine qq <| vq ?_
  cases h
  exact vW R R (.t R) (.id _)
 ·refine qJ <| fd R R fo38_0 R <| ld R R sh26 <| p1 R 4 R (vB R elS26) <| pk R 5 R (qB R R) <| mv R R ?_
  rcases bif_s h with ⟨hb103, h⟩ | ⟨hb103, h⟩
  ·refine wf R R R hb103 R R fo38_1 R <| wl R R R hb103 R R sh36 <| wq R R R hb103 (.s 9 R .nil) (vB R elS36).o <| wq R R R hb103 (.s 10 R (.k .nil)) (qB R R).o <| p2 R 7 R 11 R (vz R hb103) <| av R R <| qz ?_
   exact qw (.one R (.nil _)) (Kj102 () (decide ((a0.fEdges.length : Int) ≤ 90)) h)
  ·refine sk R R R hb103 <| sk R R R hb103 <| sk R R R hb103 <| sk R R R hb103 <| pk R 7 R (vw R hb103) <| av R R <| qz ?_
   exact qw (.one R (.nil _)) (Kj102 () false h)
theorem ref21_Few.con (k : Nat) (a0 : Pattern) (r : Bool) (h : ref21_Few k a0 = some r) : Con Tryz.prog 14 [] [AggA [SlcA kInt a0.fGraph.fNodes, SlcA kEdge a0.fGraph.fEdges, SlcA kSlot a0.fSlots, iA a0.fVars, SlcA kTest a0.fTests]] (RA (bA r)) := by
 unfold ref21_Few at h
 refine vZ (N := 18) Tryz.func14 R R R fun w0_ fg_ => sr <| p1 R 0 R (bx R (qj _)) <| ak R <| nt <| qX ?_
 refine W.jn1 (Γ := Unit) (fun (_ : Unit) (x2 : Bool) => [(2, bA x2)]) (fun (_ : Unit) (_ : Bool) => []) h (fun _ x2 h => ?_) (fun j104 Kj104 h => ?_)
 ·refine qq <| vq ?_
  cases h
  exact vW R R (.t R) (.id _)
 ·refine qJ <| fd R R fo42_0 R <| lS R R sh38 R R ?_
  obtain ⟨t105, ht105, h⟩ := vx h
  refine p1 R 4 R (vQ (f := 43) (A := bA t105) (xs := [.tmp 4]) («as» := [AggA [SlcA kInt a0.fGraph.fNodes, SlcA kEdge a0.fGraph.fEdges]]) R ca43 (ref05_Few.con k a0.fGraph t105 ht105) R) <| mv R R ?_
  rcases bif_s h with ⟨hb106, h⟩ | ⟨hb106, h⟩
  ·refine wf R R R hb106 R R fo42_1 R <| wl R R R hb106 R R sh39 <| wq R R R hb106 (.s 8 R .nil) (vB R elS39).o <| wq R R R hb106 (.s 9 R (.k .nil)) (qB R R).o <| p2 R 6 R 10 R (vz R hb106) <| mv R R ?_
   rcases bif_s h with ⟨hb107, h⟩ | ⟨hb107, h⟩
   ·refine wf R R R hb107 R R fo42_3 R <| wl R R R hb107 R R sh40 <| wq R R R hb107 (.s 14 R .nil) (vB R elS40).o <| wq R R R hb107 (.s 15 R (.k .nil)) (qB R R).o <| p2 R 12 R 16 R (vz R hb107) <| av R R <| qz ?_
    exact qw (.one R (.nil _)) (Kj104 () (decide ((a0.fTests.length : Int) ≤ 15)) h)
   ·refine sk R R R hb107 <| sk R R R hb107 <| sk R R R hb107 <| sk R R R hb107 <| pk R 12 R (vw R hb107) <| av R R <| qz ?_
    exact qw (.one R (.nil _)) (Kj104 () false h)
  ·refine sk R R R hb106 <| sk R R R hb106 <| sk R R R hb106 <| sk R R R hb106 <| pk R 6 R (vw R hb106) <| mv R R <| sk R R R R <| sk R R R R <| sk R R R R <| sk R R R R <| pk R 12 R (vw R R) <| av R R <| qz ?_
   exact qw (.one R (.nil _)) (Kj104 () false h)
theorem ref15_Few.con (k : Nat) (a0 : Host) (r : Bool) (h : ref15_Few k a0 = some r) : Con Tryz.prog 70 [] [AggA [SlcA kInt a0.fGraph.fNodes, SlcA kEdge a0.fGraph.fEdges, SlcA (kSl kInt) a0.fValues]] (RA (bA r)) := by
 unfold ref15_Few at h
 refine vZ (N := 28) Tryz.func70 R R R fun w0_ fg_ => sr <| p1 R 0 R (bx R (qj _)) <| ak R <| nt <| qX <| qX ?_
 refine W.jn1 (Γ := Unit) (fun (_ : Unit) (x13 : Bool) => [(1, PtrA [SlcA kInt a0.fGraph.fNodes, SlcA kEdge a0.fGraph.fEdges, SlcA (kSl kInt) a0.fValues]), (13, bA x13)]) (fun (_ : Unit) (_ : Bool) => []) h (fun _ x13 h => ?_) (fun j103 Kj103 h => ?_)
 ·refine qq ?_
  refine qZ h R (fun hb104 h => ?_) (fun hb104 h => ?_)
  ·refine sr <| ak R <| nt <| vq <| qy ?_
   cases h
   exact vW R R (.t R) (.id _)
  ·refine qK <| qq <| qX <| sr <| ak R <| nt <| vy ?_
   refine W.loop1 (Γ := Unit) (fun (_ : Unit) (x3 : Int) => [(1, PtrA [SlcA kInt a0.fGraph.fNodes, SlcA kEdge a0.fGraph.fEdges, SlcA (kSl kInt) a0.fValues]), (3, iA x3)]) (fun (_ : Unit) (_ : Int) => []) h () (.o2 R (.nil _)) R (fun rec0 K0 next0 _ x3 h => ?_)
   unfold ref15_Few.b0 at h
   refine qX <| sr <| mv R R <| fd R R fo60_1 R <| ld R R sh58 <| p1 R 16 R (vB R elS58) <| p2 R 14 R 17 R (qB R R) <| nt ?_
   refine qZ h R (fun hb113 h => ?_) (fun hb113 h => ?_)
   ·refine qK <| qq <| qX <| vy <| sr <| fd R R fo60_1 R <| ld R R sh58 <| mv R R ?_
    obtain ⟨c114, h⟩ := qV h
    refine p2 R 22 R 23 R (vX R el58 R c114.1 c114.2) <| ld R R sh26 <| p1 R 25 R (vB R elS26) <| pk R 26 R (qB R R) <| qz <| qw (env' := [(27, _), (3, _), (1, _)]) (.o2 R (.one R (.nil _))) <| qq ?_
    refine qZ h R (fun hb115 h => ?_) (fun hb115 h => ?_)
    ·refine sr <| ak R <| nt <| vq <| vj <| qy <| qy <| vj <| qy ?_
     cases h
     exact vW R R (.t R) (.id _)
    ·refine qK <| vJ <| qq <| qJ <| mv R R ?_
     obtain ⟨c116, h⟩ := qV h
     refine pk R 19 R (vV R c116) <| av R R <| qz ?_
     exact next0 () (x3 + 1) _ h (.o2 R (.nil _))
   ·refine bz <| qN <| qN <| bq <| qw (env' := []) (.nil _) <| qq <| sr <| ak R <| nt <| vq ?_
    cases h
    exact vW R R (.t R) (.id _)
 ·refine qJ <| fd R R fo60_0 R <| lS R R sh38 R R ?_
  obtain ⟨t117, ht117, h⟩ := vx h
  refine p1 R 5 R (vQ (f := 43) (A := bA t117) (xs := [.tmp 5]) («as» := [AggA [SlcA kInt a0.fGraph.fNodes, SlcA kEdge a0.fGraph.fEdges]]) R ca43 (ref05_Few.con k a0.fGraph t117 ht117) R) <| p1 R 6 R (q_not R) <| mv R R ?_
  rcases bif_s h with ⟨hb118, h⟩ | ⟨hb118, h⟩
  ·refine sk R R R hb118 <| sk R R R hb118 <| sk R R R hb118 <| sk R R R hb118 <| pk R 8 R (vz R hb118) <| qz ?_
   exact qw (.o2 R (.nil _)) (Kj103 () true h)
  ·refine wf R R R hb118 R R fo60_1 R <| wl R R R hb118 R R sh58 <| wq R R R hb118 (.s 10 R .nil) (vB R elS58).o <| wq R R R hb118 (.s 11 R (.k .nil)) (qB R R).o <| p2 R 8 R 12 R (vw R hb118) <| qz ?_
   exact qw (.o2 R (.nil _)) (Kj103 () (decide ((a0.fValues.length : Int) > 45)) h)
theorem ref04_Few.con (k : Nat) (a0 : Types) (r : Bool) (h : ref04_Few k a0 = some r) : Con Tryz.prog 13 [] [AggA [SlcA kNodeType a0.fNodes, SlcA kEdgeType a0.fEdges]] (RA (bA r)) := by
 unfold ref04_Few at h
 refine vZ (N := 106) Tryz.func13 R R R fun w0_ fg_ => sr <| p1 R 0 R (bx R (qj _)) <| ak R <| nt <| qX <| qX ?_
 refine W.jn1 (Γ := Unit) (fun (_ : Unit) (x18 : Bool) => [(1, PtrA [SlcA kNodeType a0.fNodes, SlcA kEdgeType a0.fEdges]), (18, bA x18)]) (fun (_ : Unit) (_ : Bool) => []) h (fun _ x18 h => ?_) (fun j102 Kj102 h => ?_)
 ·refine qq ?_
  refine qZ h R (fun hb103 h => ?_) (fun hb103 h => ?_)
  ·refine sr <| ak R <| nt <| vq <| qy ?_
   cases h
   exact vW R R (.t R) (.id _)
  ·refine qK <| qq <| sr <| ak R <| nt <| qX <| sr <| ak R <| nt ?_
   refine vy ?_
   refine W.loop2 (Γ := Unit) (fun (_ : Unit) (x3 : Int) (x4 : Int) => [(1, PtrA [SlcA kNodeType a0.fNodes, SlcA kEdgeType a0.fEdges]), (3, iA x3), (4, iA x4)]) (fun (_ : Unit) (_ : Int) (_ : Int) => []) h () (.o2 R (.one R (.nil _))) R (fun rec0 K0 next0 _ x3 x4 h => ?_)
   unfold ref04_Few.b0 at h
   refine qX <| sr <| mv R R <| fd R R fo35_0 R <| ld R R sh32 <| p1 R 21 R (vB R elS32) <| p2 R 19 R 22 R (qB R R) <| nt ?_
   refine qZ h R (fun hb304 h => ?_) (fun hb304 h => ?_)
   ·refine qK <| qq <| qX <| vy <| sr <| mv R R <| fd R R fo35_0 R <| ld R R sh32 <| mv R R ?_
    obtain ⟨c305, h⟩ := qV h
    refine p2 R 28 R 29 R (vX R el32 R c305.1 c305.2) <| fd R R fo92_3 R <| ld R R sh90 <| p1 R 32 R (vB R elS90) ?_
    obtain ⟨c306, h⟩ := qV h
    refine p2 R 26 R 33 R (vV R c306) <| av R R <| qz <| qw (env' := [(3, _), (4, _), (1, _)]) (.o2 R (.one R (.nil _))) <| qq <| qX <| qX ?_
    refine W.jn1 (Γ := Unit) (fun (_ : Unit) (x46 : Bool) => [(1, PtrA [SlcA kNodeType a0.fNodes, SlcA kEdgeType a0.fEdges]), (4, iA x4), (3, iA (x3 + (((rd a0.fNodes x4).fAttrs).length : Int))), (46, bA x46)]) (fun (_ : Unit) (_ : Bool) => []) h (fun _ x46 h => ?_) (fun j310 Kj310 h => ?_)
    ·refine qq ?_
     refine qZ h R (fun hb311 h => ?_) (fun hb311 h => ?_)
     ·refine sr <| ak R <| nt <| vq <| qy <| vj <| qy <| qy <| vj <| qy ?_
      cases h
      exact vW R R (.t R) (.id _)
     ·refine qK <| qq <| sr <| ak R <| nt <| vy ?_
      refine W.loop1 (Γ := Unit) (fun (_ : Unit) (x5 : Int) => [(1, PtrA [SlcA kNodeType a0.fNodes, SlcA kEdgeType a0.fEdges]), (4, iA x4), (3, iA (x3 + (((rd a0.fNodes x4).fAttrs).length : Int))), (5, iA x5)]) (fun (_ : Unit) (_ : Int) => []) h () (.o4 R (.nil _)) R (fun rec1 K1 next1 _ x5 h => ?_)
      unfold ref04_Few.b1 at h
      refine qX <| sr <| mv R R <| fd R R fo35_0 R <| ld R R sh32 <| mv R R ?_
      obtain ⟨c364, h⟩ := qV h
      refine p2 R 49 R 50 R (vX R el32 R c364.1 c364.2) <| fd R R fo92_3 R <| ld R R sh90 <| p1 R 53 R (vB R elS90) <| p2 R 47 R 54 R (qB R R) <| qz <| qw (env' := [(55, _), (5, _), (3, _), (4, _), (1, _)]) (.o4 R (.one R (.nil _))) <| qq ?_
      refine qZ h R (fun hb365 h => ?_) (fun hb365 h => ?_)
      ·refine qK <| qq <| qX <| vy <| sr <| fd R R fo35_0 R <| ld R R sh32 <| mv R R ?_
       obtain ⟨c366, h⟩ := qV h
       refine p2 R 59 R 60 R (vX R el32 R c366.1 c366.2) <| fd R R fo92_3 R <| ld R R sh90 <| mv R R ?_
       obtain ⟨c367, h⟩ := qV h
       refine p2 R 63 R 64 R (vX R el90 R c367.1 c367.2) <| lS R R sh95 R R <| WL.w [] R (qQ R) R R .nil (w_alloc R z95 (l := [EqA (strV ([] : Str)), iA 0, iA 0, EqA (.slice none 0 0)]) R) ?_
       rintro _ _ ⟨b368, rfl, rfl⟩
       refine WL.w0 [0] R (qQ R) R (.s 6 R (.s 66 R .nil)) (w_store (L := [EqA (strV ((rd ((rd a0.fNodes x4).fAttrs) x5).fName)), iA ((rd ((rd a0.fNodes x4).fAttrs) x5).fLow), iA ((rd ((rd a0.fNodes x4).fAttrs) x5).fHigh), SlcA kStr ((rd ((rd a0.fNodes x4).fAttrs) x5).fNames)]) R sh95 (qj _) R R (leB R) R) ?_
       rintro _ _ ⟨rfl, rfl⟩
       refine qz <| QN.to (StTo.still [0] 6 R R) <| qw (env' := [(6, _), (5, _), (3, _), (4, _), (1, _)]) (.o4 R (.one R (.nil _))) <| qq <| qX <| qX ?_
       refine W.jn1 (Γ := Unit) (fun (_ : Unit) (x76 : Bool) => [(1, PtrA [SlcA kNodeType a0.fNodes, SlcA kEdgeType a0.fEdges]), (4, iA x4), (3, iA (x3 + (((rd a0.fNodes x4).fAttrs).length : Int))), (5, iA x5), (6, PtrA [EqA (strV ((rd ((rd a0.fNodes x4).fAttrs) x5).fName)), iA ((rd ((rd a0.fNodes x4).fAttrs) x5).fLow), iA ((rd ((rd a0.fNodes x4).fAttrs) x5).fHigh), SlcA kStr ((rd ((rd a0.fNodes x4).fAttrs) x5).fNames)]), (76, bA x76)]) (fun (_ : Unit) (_ : Bool) => []) h (fun _ x76 h => ?_) (fun j371 Kj371 h => ?_)
       ·refine qq ?_
        refine qZ h R (fun hb372 h => ?_) (fun hb372 h => ?_)
        ·refine sr <| ak R <| nt <| vq <| qy <| vj <| qy <| qy <| vj <| vj <| qy ?_
         refine qy <| vj <| qy ?_
         cases h
         exact vW R R (.t R) (.id _)
        ·refine qK <| qq <| sr <| ak R <| nt <| vy ?_
         refine W.loop1 (Γ := Unit) (fun (_ : Unit) (x7 : Int) => [(1, PtrA [SlcA kNodeType a0.fNodes, SlcA kEdgeType a0.fEdges]), (4, iA x4), (3, iA (x3 + (((rd a0.fNodes x4).fAttrs).length : Int))), (5, iA x5), (6, PtrA [EqA (strV ((rd ((rd a0.fNodes x4).fAttrs) x5).fName)), iA ((rd ((rd a0.fNodes x4).fAttrs) x5).fLow), iA ((rd ((rd a0.fNodes x4).fAttrs) x5).fHigh), SlcA kStr ((rd ((rd a0.fNodes x4).fAttrs) x5).fNames)]), (7, iA x7)]) (fun (_ : Unit) (_ : Int) => []) h () (.o4 R (.o2 R (.nil _))) R (fun rec2 K2 next2 _ x7 h => ?_)
         unfold ref04_Few.b2 at h
         refine qX <| sr <| mv R R <| fd R R fo95_3 R <| ld R R sh93 <| p1 R 79 R (vB R elS93) <| p2 R 77 R 80 R (qB R R) <| nt ?_
         refine qZ h R (fun hb383 h => ?_) (fun hb383 h => ?_)
         ·refine qK <| qq <| qX <| vy <| sr <| fd R R fo95_3 R <| ld R R sh93 <| mv R R ?_
          obtain ⟨c384, h⟩ := qV h
          refine p2 R 85 R 86 R (vX R el93 R c384.1 c384.2) <| ld R R sh9 <| p1 R 88 R (q_slen (s := (rd ((rd ((rd a0.fNodes x4).fAttrs) x5).fNames) x7)) R iss9) <| pk R 89 R (qB R R) <| qz <| qw (env' := [(90, _), (7, _), (6, _), (5, _), (3, _), (4, _), (1, _)]) (.o4 R (.o2 R (.one R (.nil _)))) <| qq ?_
          refine qZ h R (fun hb385 h => ?_) (fun hb385 h => ?_)
          ·refine sr <| ak R <| qz <| qw (env' := [(2, _)]) (.one R (.nil _)) <| qq <| vq <| vj <| qy <| qy <| vj <| vj <| qy ?_
           refine qy <| vj <| vj <| qy <| qy <| vj <| qy ?_
           cases h
           exact vW R R (.t R) (.id _)
          ·refine qK <| vJ <| qq <| qJ <| mv R R ?_
           obtain ⟨c386, h⟩ := qV h
           refine pk R 82 R (vV R c386) <| av R R <| qz ?_
           exact next2 () (x7 + 1) _ h (.o4 R (.o2 R (.nil _)))
         ·refine bz <| qN <| qN <| bq <| vJ <| qw (env' := [(5, _), (3, _), (4, _), (1, _)]) (.o4 R (.nil _)) <| qq <| qJ <| mv R R ?_
          obtain ⟨c387, h⟩ := qV h
          refine pk R 56 R (vV R c387) <| av R R <| qz ?_
          exact next1 () (x5 + 1) _ h (.o4 R (.nil _))
       ·refine qJ <| fd R R fo95_0 R <| ld R R sh9 <| p1 R 68 R (q_slen (s := (rd ((rd a0.fNodes x4).fAttrs) x5).fName) R iss9) <| pk R 69 R (qB R R) <| mv R R ?_
        rcases bif_s h with ⟨hb388, h⟩ | ⟨hb388, h⟩
        ·refine sk R R R hb388 <| sk R R R hb388 <| sk R R R hb388 <| sk R R R hb388 <| pk R 71 R (vz R hb388) <| qz ?_
         exact qw (.o4 R (.o2 R (.nil _))) (Kj371 () true h)
        ·refine wf R R R hb388 R R fo95_3 R <| wl R R R hb388 R R sh93 <| wq R R R hb388 (.s 73 R .nil) (vB R elS93).o <| wq R R R hb388 (.s 74 R (.k .nil)) (qB R R).o <| p2 R 71 R 75 R (vw R hb388) <| qz ?_
         exact qw (.o4 R (.o2 R (.nil _))) (Kj371 () (decide ((((rd ((rd a0.fNodes x4).fAttrs) x5).fNames).length : Int) > 25)) h)
      ·refine bz <| qN <| qN <| bq <| vJ <| qq <| qJ <| mv R R ?_
       obtain ⟨c389, h⟩ := qV h
       refine pk R 24 R (vV R c389) <| av R R <| qz ?_
       exact next0 () (x3 + (((rd a0.fNodes x4).fAttrs).length : Int)) (x4 + 1) _ h (.o2 R (.one R (.nil _)))
    ·refine qJ <| mv R R <| pk R 35 R (qB R R) <| mv R R ?_
     rcases bif_s h with ⟨hb390, h⟩ | ⟨hb390, h⟩
     ·refine sk R R R hb390 <| sk R R R hb390 <| sk R R R hb390 <| sk R R R hb390 <| sk R R R hb390 <| sk R R R hb390 <| sk R R R hb390 <| sk R R R hb390 <| pk R 37 R (vz R hb390) <| qz ?_
      exact qw (.o4 R (.nil _)) (Kj310 () true h)
     ·refine wf R R R hb390 R R fo35_0 R <| wl R R R hb390 R R sh32 <| wm R R R hb390 R R ?_
      obtain ⟨c391, h⟩ := qV h
      refine wq R R R hb390 (.s 39 R (.s 40 R .nil)) (vX R el32 R c391.1 c391.2).o <| wf R R R hb390 R R fo92_0 R <| wl R R R hb390 R R sh9 <| wq R R R hb390 (.s 43 R .nil) (q_slen (s := (rd a0.fNodes x4).fName) R iss9).o <| wq R R R hb390 (.s 44 R (.k .nil)) (qB R R).o <| p2 R 37 R 45 R (vw R hb390) <| qz ?_
      exact qw (.o4 R (.nil _)) (Kj310 () (decide ((((rd a0.fNodes x4).fName).length : Int) > 40)) h)
   ·refine bz <| qN <| qN <| bq <| qw (env' := [(1, _)]) (.one R (.nil _)) <| qq <| qX <| sr <| ak R <| nt <| vy ?_
    refine W.loop1 (Γ := Unit) (fun (_ : Unit) (x8 : Int) => [(1, PtrA [SlcA kNodeType a0.fNodes, SlcA kEdgeType a0.fEdges]), (8, iA x8)]) (fun (_ : Unit) (_ : Int) => []) h () (.o2 R (.nil _)) R (fun rec3 K3 next3 _ x8 h => ?_)
    unfold ref04_Few.b3 at h
    refine qX <| sr <| mv R R <| fd R R fo35_1 R <| ld R R sh33 <| p1 R 93 R (vB R elS33) <| p2 R 91 R 94 R (qB R R) <| nt ?_
    refine qZ h R (fun hb400 h => ?_) (fun hb400 h => ?_)
    ·refine qK <| qq <| qX <| vy <| sr <| fd R R fo35_1 R <| ld R R sh33 <| mv R R ?_
     obtain ⟨c401, h⟩ := qV h
     refine p2 R 99 R 100 R (vX R el33 R c401.1 c401.2) <| fd R R fo97_0 R <| ld R R sh9 <| p1 R 103 R (q_slen (s := (rd a0.fEdges x8).fName) R iss9) <| pk R 104 R (qB R R) <| qz <| qw (env' := [(105, _), (8, _), (1, _)]) (.o2 R (.one R (.nil _))) <| qq ?_
     refine qZ h R (fun hb402 h => ?_) (fun hb402 h => ?_)
     ·refine sr <| ak R <| nt <| vq <| vj <| qy <| qy <| vj <| qy ?_
      cases h
      exact vW R R (.t R) (.id _)
     ·refine qK <| vJ <| qq <| qJ <| mv R R ?_
      obtain ⟨c403, h⟩ := qV h
      refine pk R 96 R (vV R c403) <| av R R <| qz ?_
      exact next3 () (x8 + 1) _ h (.o2 R (.nil _))
    ·refine bz <| qN <| qN <| bq <| qw (env' := []) (.nil _) <| qq <| sr <| ak R <| nt <| vq ?_
     cases h
     exact vW R R (.t R) (.id _)
 ·refine qJ <| fd R R fo35_0 R <| ld R R sh32 <| p1 R 10 R (vB R elS32) <| pk R 11 R (qB R R) <| mv R R ?_
  rcases bif_s h with ⟨hb404, h⟩ | ⟨hb404, h⟩
  ·refine sk R R R hb404 <| sk R R R hb404 <| sk R R R hb404 <| sk R R R hb404 <| pk R 13 R (vz R hb404) <| qz ?_
   exact qw (.o2 R (.nil _)) (Kj102 () true h)
  ·refine wf R R R hb404 R R fo35_1 R <| wl R R R hb404 R R sh33 <| wq R R R hb404 (.s 15 R .nil) (vB R elS33).o <| wq R R R hb404 (.s 16 R (.k .nil)) (qB R R).o <| p2 R 13 R 17 R (vw R hb404) <| qz ?_
   exact qw (.o2 R (.nil _)) (Kj102 () (decide ((a0.fEdges.length : Int) > 30)) h)
theorem ref01_text.con (k : Nat) (a0 : Token) (r : Str) (h : ref01_text k a0 = some r) : Con Tryz.prog 202 [] [AggA [iA a0.fKind, EqA (strV a0.fText), iA a0.fLine]] (RA (EqA (strV r))) := by
 unfold ref01_text at h
 refine vZ (N := 12) Tryz.func202 R R R fun w0_ fg_ => sr <| p1 R 0 R (bx R (qj _)) <| ak R <| nt <| qX <| sr <| fd R R fo226_0 R <| ld R R sh3 <| pk R 4 R (qB R R) ?_
 refine nt ?_
 refine qZ h R (fun hb100 h => ?_) (fun hb100 h => ?_)
 ·refine sr <| fd R R fo226_1 R <| ld R R sh9 ?_
  obtain ⟨c101, h⟩ := qV h
  refine WL.p R R R (.k (.s 7 R .nil)) (q_sadd (s := ([34] : Str)) (t := a0.fText) R c101) ?_
  obtain ⟨c102, h⟩ := qV h
  refine pk R 8 R (q_sadd (s := (([34] : Str) ++ a0.fText)) (t := ([34] : Str)) R c102) <| av R R <| qz <| qw (env' := [(2, _)]) (.one R (.nil _)) <| qq <| vq <| qy ?_
  cases h
  exact vW R R (.t R) (.id _)
 ·refine qK <| qq <| sr <| fd R R fo226_1 R <| ld R R sh9 <| av R R <| qz <| qw (env' := [(2, _)]) (.one R (.nil _)) <| qq <| vq ?_
  cases h
  exact vW R R (.t R) (.id _)
theorem ref01_letter.con (k : Nat) (a0 : Int) (r : Bool) (h : ref01_letter k a0 = some r) : Con Tryz.prog 220 [] [EqA (.int .u8 a0)] (RA (bA r)) := by
 unfold ref01_letter at h
 refine vZ (N := 17) Tryz.func220 R R R fun w0_ fg_ => sr <| ak R <| nt <| qX ?_
 refine W.jn1 (Γ := Unit) (fun (_ : Unit) (x2 : Bool) => [(2, bA x2)]) (fun (_ : Unit) (_ : Bool) => []) h (fun _ x2 h => ?_) (fun j105 Kj105 h => ?_)
 ·refine qq <| vq ?_
  cases h
  exact vW R R (.t R) (.id _)
 ·refine qJ <| mv R R <| pk R 3 R (qB R R) <| mv R R ?_
  rcases bif_s h with ⟨hb106, h⟩ | ⟨hb106, h⟩
  ·refine wm R R R hb106 R R <| wq R R R hb106 (.s 6 R (.k .nil)) (qB R R).o <| p2 R 5 R 7 R (vz R hb106) <| mv R R ?_
   rcases bif_s h with ⟨hb107, h⟩ | ⟨hb107, h⟩
   ·refine sk R R R hb107 <| sk R R R hb107 <| sk R R R hb107 <| su R R R <| su R R R <| sk R R R hb107 <| pk R 9 R (vz R hb107) <| av R R <| qz ?_
    exact qw (.one R (.nil _)) (Kj105 () true h)
   ·refine wm R R R hb107 R R <| wq R R R hb107 (.s 10 R (.k .nil)) (qB R R).o <| wm R R R hb107 R R ?_
    rcases bif_s h with ⟨hb108, h⟩ | ⟨hb108, h⟩
    ·refine wm R R R hb108 R R <| wq R R R hb108 (.s 13 R (.k .nil)) (qB R R).o <| wq R R R hb107 (.s 12 R (.s 14 R .nil)) (vz R hb108).o <| p2 R 9 R 15 R (vw R hb107) <| av R R <| qz ?_
     exact qw (.one R (.nil _)) (Kj105 () (decide (a0 ≤ 90)) h)
    ·refine sk R R R hb108 <| sk R R R hb108 <| wq R R R hb107 (.s 12 R (.k .nil)) (vw R hb108).o <| p2 R 9 R 15 R (vw R hb107) <| av R R <| qz ?_
     exact qw (.one R (.nil _)) (Kj105 () false h)
  ·refine sk R R R hb106 <| sk R R R hb106 <| pk R 5 R (vw R hb106) <| mv R R <| wm R R R R R R <| wq R R R R (.s 10 R (.k .nil)) (qB R R).o <| wm R R R R R R ?_
   rcases bif_s h with ⟨hb109, h⟩ | ⟨hb109, h⟩
   ·refine wm R R R hb109 R R <| wq R R R hb109 (.s 13 R (.k .nil)) (qB R R).o <| wq R R R R (.s 12 R (.s 14 R .nil)) (vz R hb109).o <| p2 R 9 R 15 R (vw R R) <| av R R <| qz ?_
    exact qw (.one R (.nil _)) (Kj105 () (decide (a0 ≤ 90)) h)
   ·refine sk R R R hb109 <| sk R R R hb109 <| wq R R R R (.s 12 R (.k .nil)) (vw R hb109).o <| p2 R 9 R 15 R (vw R R) <| av R R <| qz ?_
    exact qw (.one R (.nil _)) (Kj105 () false h)
theorem ref01_digit.con (k : Nat) (a0 : Int) (r : Bool) (h : ref01_digit k a0 = some r) : Con Tryz.prog 221 [] [EqA (.int .u8 a0)] (RA (bA r)) := by
 unfold ref01_digit at h
 refine vZ (N := 9) Tryz.func221 R R R fun w0_ fg_ => sr <| ak R <| nt <| qX ?_
 refine W.jn1 (Γ := Unit) (fun (_ : Unit) (x2 : Bool) => [(2, bA x2)]) (fun (_ : Unit) (_ : Bool) => []) h (fun _ x2 h => ?_) (fun j102 Kj102 h => ?_)
 ·refine qq <| vq ?_
  cases h
  exact vW R R (.t R) (.id _)
 ·refine qJ <| mv R R <| pk R 3 R (qB R R) <| mv R R ?_
  rcases bif_s h with ⟨hb103, h⟩ | ⟨hb103, h⟩
  ·refine wm R R R hb103 R R <| wq R R R hb103 (.s 6 R (.k .nil)) (qB R R).o <| p2 R 5 R 7 R (vz R hb103) <| av R R <| qz ?_
   exact qw (.one R (.nil _)) (Kj102 () (decide (a0 ≤ 57)) h)
  ·refine sk R R R hb103 <| sk R R R hb103 <| pk R 5 R (vw R hb103) <| av R R <| qz ?_
   exact qw (.one R (.nil _)) (Kj102 () false h)
theorem ref01_run.con (k : Nat) (a0 : Str) (a1 : Int) (a2 : Bool) (r : Int) (h : ref01_run k a0 a1 a2 = some r) : Con Tryz.prog 222 [] [EqA (strV a0), iA a1, bA a2] (RA (iA r)) := by
 unfold ref01_run at h
 refine vZ (N := 45) Tryz.func222 R R R fun w0_ fg_ => sr <| ak R <| nx <| ak R <| nt <| qX <| vy ?_
 refine W.loop1 (Γ := Unit) (fun (_ : Unit) (x7 : Int) => [(0, EqA (strV a0)), (1, iA a1), (2, bA a2), (7, iA x7)]) (fun (_ : Unit) (_ : Int) => []) h () (.o4 R (.nil _)) R (fun rec0 K0 next0 _ x7 h => ?_)
 unfold ref01_run.b0 at h
 refine qX <| qX ?_
 refine W.jn1 (Γ := Unit) (fun (_ : Unit) (x41 : Bool) => [(0, EqA (strV a0)), (1, iA a1), (2, bA a2), (7, iA x7), (41, bA x41)]) (fun (_ : Unit) (_ : Bool) => []) h (fun _ x41 h => ?_) (fun j174 Kj174 h => ?_)
 ·refine qq ?_
  refine qZ h R (fun hb175 h => ?_) (fun hb175 h => ?_)
  ·refine qK <| qq <| vy <| qJ <| mv R R ?_
   obtain ⟨c176, h⟩ := qV h
   refine pk R 42 R (vV R c176) <| av R R <| qz <| vJ ?_
   exact next0 () (x7 + 1) _ h (.o4 R (.nil _))
  ·refine bz <| qN <| qN <| bq <| qq <| sr <| mv R R <| av R R <| nt <| vq ?_
   cases h
   exact vW R R (.t R) (.id _)
 ·refine qJ <| mv R R <| mv R R ?_
  obtain ⟨c177, h⟩ := qV h
  refine p2 R 8 R 9 R (vV R c177) <| mv R R <| p1 R 11 R (q_slen (s := a0) R iss9) <| p2 R 10 R 12 R (qB R R) <| mv R R ?_
  rcases bif_s h with ⟨hb178, h⟩ | ⟨hb178, h⟩
  ·refine wm R R R hb178 R R <| wm R R R hb178 R R <| wm R R R hb178 R R ?_
   obtain ⟨c179, h⟩ := qV h
   refine wq R R R hb178 (.s 16 R (.s 17 R .nil)) (vV R c179).o ?_
   obtain ⟨c180, h⟩ := qV h
   refine wq R R R hb178 (.s 15 R (.s 18 R .nil)) (q_sindex R iss9 c180.1 c180.2).o ?_
   obtain ⟨t181, ht181, h⟩ := vx h
   refine wq R R R hb178 (.s 19 R .nil) (vQ (f := 221) (A := bA t181) (xs := [.tmp 19]) («as» := [EqA (.int .u8 (bt a0 (a1 + x7)))]) R ca221 (ref01_digit.con k (bt a0 (a1 + x7)) t181 ht181) R).o <| wm R R R hb178 R R ?_
   rcases bif_s h with ⟨hb182, h⟩ | ⟨hb182, h⟩
   ·refine sk R R R hb182 <| sk R R R hb182 <| sk R R R hb182 <| su R R R <| su R R R <| su R R R <| su R R R <| su R R R <| su R R R <| su R R R <| su R R R <| su R R R <| su R R R ?_
    refine su R R R <| su R R R <| su R R R <| su R R R <| sk R R R hb182 <| wq R R R hb178 (.s 21 R (.k .nil)) (vz R hb182).o <| p2 R 14 R 40 R (vz R hb178) <| qz ?_
    exact qw (.o4 R (.one R (.nil _))) (Kj174 () true h)
   ·refine wm R R R hb182 R R <| wq R R R hb182 (.s 22 R .nil) (q_not R).o <| wm R R R hb182 R R ?_
    rcases bif_s h with ⟨hb183, h⟩ | ⟨hb183, h⟩
    ·refine wm R R R hb183 R R <| wm R R R hb183 R R <| wm R R R hb183 R R ?_
     obtain ⟨c184, h⟩ := qV h
     refine wq R R R hb183 (.s 26 R (.s 27 R .nil)) (vV R c184).o ?_
     obtain ⟨c185, h⟩ := qV h
     refine wq R R R hb183 (.s 25 R (.s 28 R .nil)) (q_sindex R iss9 c185.1 c185.2).o ?_
     obtain ⟨t186, ht186, h⟩ := vx h
     refine wq R R R hb183 (.s 29 R .nil) (vQ (f := 220) (A := bA t186) (xs := [.tmp 29]) («as» := [EqA (.int .u8 (bt a0 (a1 + x7)))]) R ca220 (ref01_letter.con k (bt a0 (a1 + x7)) t186 ht186) R).o <| wm R R R hb183 R R ?_
     rcases bif_s h with ⟨hb187, h⟩ | ⟨hb187, h⟩
     ·refine sk R R R hb187 <| sk R R R hb187 <| sk R R R hb187 <| sk R R R hb187 <| sk R R R hb187 <| sk R R R hb187 <| wq R R R hb183 (.s 31 R (.k .nil)) (vz R hb187).o <| wq R R R hb182 (.s 24 R (.s 38 R .nil)) (vz R hb183).o <| wq R R R hb178 (.s 21 R (.s 39 R .nil)) (vw R hb182).o <| p2 R 14 R 40 R (vz R hb178) <| qz ?_
      exact qw (.o4 R (.one R (.nil _))) (Kj174 () true h)
     ·refine wm R R R hb187 R R <| wm R R R hb187 R R <| wm R R R hb187 R R ?_
      obtain ⟨c188, h⟩ := qV h
      refine wq R R R hb187 (.s 33 R (.s 34 R .nil)) (vV R c188).o ?_
      obtain ⟨c189, h⟩ := qV h
      refine wq R R R hb187 (.s 32 R (.s 35 R .nil)) (q_sindex R iss9 c189.1 c189.2).o <| wq R R R hb187 (.s 36 R (.k .nil)) (qB R R).o <| wq R R R hb183 (.s 31 R (.s 37 R .nil)) (vw R hb187).o <| wq R R R hb182 (.s 24 R (.s 38 R .nil)) (vz R hb183).o <| wq R R R hb178 (.s 21 R (.s 39 R .nil)) (vw R hb182).o <| p2 R 14 R 40 R (vz R hb178) <| qz ?_
      exact qw (.o4 R (.one R (.nil _))) (Kj174 () ((bt a0 (a1 + x7)) == 95) h)
    ·refine sk R R R hb183 <| sk R R R hb183 <| sk R R R hb183 <| sk R R R hb183 <| sk R R R hb183 <| sk R R R hb183 <| sk R R R hb183 <| su R R R <| su R R R <| su R R R <| su R R R <| su R R R <| su R R R ?_
     refine sk R R R hb183 <| wq R R R hb182 (.s 24 R (.k .nil)) (vw R hb183).o <| wq R R R hb178 (.s 21 R (.s 39 R .nil)) (vw R hb182).o <| p2 R 14 R 40 R (vz R hb178) <| qz ?_
     exact qw (.o4 R (.one R (.nil _))) (Kj174 () false h)
  ·refine sk R R R hb178 <| sk R R R hb178 <| sk R R R hb178 <| sk R R R hb178 <| sk R R R hb178 <| sk R R R hb178 <| sk R R R hb178 <| su R R R <| su R R R <| su R R R <| su R R R <| su R R R <| su R R R ?_
   refine su R R R <| su R R R <| su R R R <| su R R R <| su R R R <| su R R R <| su R R R <| su R R R <| su R R R <| su R R R <| su R R R <| su R R R <| sk R R R hb178 ?_
   refine pk R 14 R (vw R hb178) <| qz ?_
   exact qw (.o4 R (.one R (.nil _))) (Kj174 () false h)
theorem ref01_quoted.con (k : Nat) (a0 : Str) (a1 : Int) (r : Int) (h : ref01_quoted k a0 a1 = some r) : Con Tryz.prog 223 [] [EqA (strV a0), iA a1] (RA (iA r)) := by
 unfold ref01_quoted at h
 refine vZ (N := 30) Tryz.func223 R R R fun w0_ fg_ => sr <| ak R <| nt <| qX <| sr <| ak R <| nt <| vy ?_
 refine W.loop1 (Γ := Unit) (fun (_ : Unit) (x5 : Int) => [(0, EqA (strV a0)), (1, iA a1), (5, iA x5)]) (fun (_ : Unit) (_ : Int) => []) h () (.o2 R (.one R (.nil _))) R (fun rec0 K0 next0 _ x5 h => ?_)
 unfold ref01_quoted.b0 at h
 refine qX <| sr <| mv R R <| mv R R ?_
 obtain ⟨c124, h⟩ := qV h
 refine p2 R 7 R 8 R (vV R c124) <| mv R R <| p1 R 10 R (q_slen (s := a0) R iss9) <| p2 R 9 R 11 R (qB R R) <| nt ?_
 refine qZ h R (fun hb125 h => ?_) (fun hb125 h => ?_)
 ·refine qK <| qq <| qX <| vy <| sr <| mv R R <| mv R R <| mv R R ?_
  obtain ⟨c126, h⟩ := qV h
  refine p2 R 16 R 17 R (vV R c126) ?_
  obtain ⟨c127, h⟩ := qV h
  refine p2 R 15 R 18 R (q_sindex R iss9 c127.1 c127.2) <| av R R <| qz <| qw (env' := [(6, _), (5, _), (1, _), (0, _)]) (.o4 R (.nil _)) <| qq <| qX <| sr <| mv R R <| pk R 20 R (qB R R) <| nt ?_
  refine qZ h R (fun hb128 h => ?_) (fun hb128 h => ?_)
  ·refine sr <| mv R R ?_
   obtain ⟨c129, h⟩ := qV h
   refine pk R 22 R (vV R c129) <| av R R <| qz <| qw (env' := [(4, _)]) (.one R (.nil _)) <| qq <| vq <| qy <| vj <| qy <| qy <| vj <| qy ?_
   cases h
   exact vW R R (.t R) (.id _)
  ·refine qK <| qq <| qX ?_
   refine W.jn1 (Γ := Unit) (fun (_ : Unit) (x29 : Bool) => [(0, EqA (strV a0)), (1, iA a1), (5, iA x5), (29, bA x29)]) (fun (_ : Unit) (_ : Bool) => []) h (fun _ x29 h => ?_) (fun j132 Kj132 h => ?_)
   ·refine qq ?_
    refine qZ h R (fun hb133 h => ?_) (fun hb133 h => ?_)
    ·refine sr <| ak R <| nt <| vq <| vj <| qy <| qy <| vj <| qy ?_
     cases h
     exact vW R R (.t R) (.id _)
    ·refine qK <| vJ <| qq <| qJ <| mv R R ?_
     obtain ⟨c134, h⟩ := qV h
     refine pk R 13 R (vV R c134) <| av R R <| qz ?_
     exact next0 () (x5 + 1) _ h (.o2 R (.one R (.nil _)))
   ·refine qJ <| mv R R <| pk R 24 R (qB R R) <| mv R R ?_
    rcases bif_s h with ⟨hb135, h⟩ | ⟨hb135, h⟩
    ·refine sk R R R hb135 <| sk R R R hb135 <| pk R 26 R (vz R hb135) <| qz ?_
     exact qw (.o4 R (.nil _)) (Kj132 () true h)
    ·refine wm R R R hb135 R R <| wq R R R hb135 (.s 27 R (.k .nil)) (qB R R).o <| p2 R 26 R 28 R (vw R hb135) <| qz ?_
     exact qw (.o4 R (.nil _)) (Kj132 () (decide ((bt a0 (a1 + x5)) > 126)) h)
 ·refine bz <| qN <| qN <| bq <| qw (env' := []) (.nil _) <| qq <| sr <| ak R <| nt <| vq ?_
  cases h
  exact vW R R (.t R) (.id _)
theorem ref01_signs.con (k : Nat) (r : (List Str)) (h : ref01_signs k = some r) : Con Tryz.prog 224 [] [] (RA (SlcA kStr r)) := by
 unfold ref01_signs at h
 refine vZ (N := 2) Tryz.func224 R R R fun w0_ fg_ => sr <| ak R <| nx <| WL.p R R R (.k (.k (.k (.k (.k (.k (.k (.k (.k (.k (.k (.k (.k (.k (.k (.k (.k (.k (.k (.k (.k (.k (.k (.k (.k .nil))))))))))))))))))))))))) (q_lit (kd := kStr) (ps := [(0, .const (.string ⟨#[45, 62]⟩)), (1, .const (.string ⟨#[60, 61]⟩)), (2, .const (.string ⟨#[62, 61]⟩)), (3, .const (.string ⟨#[61, 61]⟩)), (4, .const (.string ⟨#[33, 61]⟩)), (5, .const (.string ⟨#[123]⟩)), (6, .const (.string ⟨#[125]⟩)), (7, .const (.string ⟨#[40]⟩)), (8, .const (.string ⟨#[41]⟩)), (9, .const (.string ⟨#[91]⟩)), (10, .const (.string ⟨#[93]⟩)), (11, .const (.string ⟨#[44]⟩)), (12, .const (.string ⟨#[59]⟩)), (13, .const (.string ⟨#[58]⟩)), (14, .const (.string ⟨#[61]⟩)), (15, .const (.string ⟨#[43]⟩)), (16, .const (.string ⟨#[45]⟩)), (17, .const (.string ⟨#[42]⟩)), (18, .const (.string ⟨#[60]⟩)), (19, .const (.string ⟨#[62]⟩)), (20, .const (.string ⟨#[33]⟩)), (21, .const (.string ⟨#[38]⟩)), (22, .const (.string ⟨#[124]⟩)), (23, .const (.string ⟨#[46]⟩)), (24, .const (.string ⟨#[63]⟩))]) (xs := [.const (.string ⟨#[45, 62]⟩), .const (.string ⟨#[60, 61]⟩), .const (.string ⟨#[62, 61]⟩), .const (.string ⟨#[61, 61]⟩), .const (.string ⟨#[33, 61]⟩), .const (.string ⟨#[123]⟩), .const (.string ⟨#[125]⟩), .const (.string ⟨#[40]⟩), .const (.string ⟨#[41]⟩), .const (.string ⟨#[91]⟩), .const (.string ⟨#[93]⟩), .const (.string ⟨#[44]⟩), .const (.string ⟨#[59]⟩), .const (.string ⟨#[58]⟩), .const (.string ⟨#[61]⟩), .const (.string ⟨#[43]⟩), .const (.string ⟨#[45]⟩), .const (.string ⟨#[42]⟩), .const (.string ⟨#[60]⟩), .const (.string ⟨#[62]⟩), .const (.string ⟨#[33]⟩), .const (.string ⟨#[38]⟩), .const (.string ⟨#[124]⟩), .const (.string ⟨#[46]⟩), .const (.string ⟨#[63]⟩)]) («as» := [EqA (strV ([45, 62] : Str)), EqA (strV ([60, 61] : Str)), EqA (strV ([62, 61] : Str)), EqA (strV ([61, 61] : Str)), EqA (strV ([33, 61] : Str)), EqA (strV ([123] : Str)), EqA (strV ([125] : Str)), EqA (strV ([40] : Str)), EqA (strV ([41] : Str)), EqA (strV ([91] : Str)), EqA (strV ([93] : Str)), EqA (strV ([44] : Str)), EqA (strV ([59] : Str)), EqA (strV ([58] : Str)), EqA (strV ([61] : Str)), EqA (strV ([43] : Str)), EqA (strV ([45] : Str)), EqA (strV ([42] : Str)), EqA (strV ([60] : Str)), EqA (strV ([62] : Str)), EqA (strV ([33] : Str)), EqA (strV ([38] : Str)), EqA (strV ([124] : Str)), EqA (strV ([46] : Str)), EqA (strV ([63] : Str))]) (ys := [([45, 62] : Str), ([60, 61] : Str), ([62, 61] : Str), ([61, 61] : Str), ([33, 61] : Str), ([123] : Str), ([125] : Str), ([40] : Str), ([41] : Str), ([91] : Str), ([93] : Str), ([44] : Str), ([59] : Str), ([58] : Str), ([61] : Str), ([43] : Str), ([45] : Str), ([42] : Str), ([60] : Str), ([62] : Str), ([33] : Str), ([38] : Str), ([124] : Str), ([46] : Str), ([63] : Str)]) R R el93 R gr9 R R R (.cons (qW R) (.cons (qW R) (.cons (qW R) (.cons (qW R) (.cons (qW R) (.cons (qW R) (.cons (qW R) (.cons (qW R) (.cons (qW R) (.cons (qW R) (.cons (qW R) (.cons (qW R) (.cons (qW R) (.cons (qW R) (.cons (qW R) (.cons (qW R) (.cons (qW R) (.cons (qW R) (.cons (qW R) (.cons (qW R) (.cons (qW R) (.cons (qW R) (.cons (qW R) (.cons (qW R) (.cons (qW R) .nil)))))))))))))))))))))))))) <| av R R <| nt <| vq ?_
 cases h
 exact vW R R (.t R) (.id _)
theorem ref01_one.con (k : Nat) (a0 : Str) (a1 : Int) (r : (Token × Int × Int)) (h : ref01_one k a0 a1 = some r) : Con Tryz.prog 203 [] [EqA (strV a0), iA a1] (RA (TupA [AggA [iA r.1.fKind, EqA (strV r.1.fText), iA r.1.fLine], iA r.2.1, iA r.2.2])) := by
 unfold ref01_one at h
 refine vZ (N := 110) Tryz.func203 R R R fun w0_ fg_ => sr <| WL.w [] R (qQ R) R R .nil (w_alloc R z226 (l := [iA 0, EqA (strV ([] : Str)), iA 0]) R) ?_
 rintro _ _ ⟨b100, rfl, rfl⟩
 refine ak R <| ak R <| nx <| mv R R <| mv R R ?_
 obtain ⟨c101, h⟩ := qV h
 refine p2 R 14 R 15 R (q_sindex R iss9 c101.1 c101.2) <| av R R <| nt <| qX <| qX ?_
 refine W.jn1 (Γ := Unit) (fun (_ : Unit) (x22 : Bool) => [(0, EqA (strV a0)), (1, iA a1), (4, EqA (.pointer (some ⟨b100, 0, none⟩))), (7, EqA (.int .u8 (bt a0 a1))), (22, bA x22)]) (fun (_ : Unit) (_ : Bool) => [BoxE b100 [iA 0, EqA (strV ([] : Str)), iA 0]]) h (fun _ x22 h => ?_) (fun j106 Kj106 h => ?_)
 ·refine qq ?_
  refine qZ h R (fun hb107 h => ?_) (fun hb107 h => ?_)
  ·refine sr <| mv R R <| mv R R <| mv R R ?_
   obtain ⟨t108, ht108, h⟩ := vx h
   refine p1 R 25 R (vQ (f := 221) (A := bA t108) (xs := [.tmp 25]) («as» := [EqA (.int .u8 (bt a0 a1))]) R ca221 (ref01_digit.con k (bt a0 a1) t108 ht108) R) ?_
   obtain ⟨t109, ht109, h⟩ := vx h
   refine WL.p R R R (.s 23 R (.s 24 R (.s 26 R .nil))) (vQ (f := 222) (A := iA t109) (xs := [.tmp 23, .tmp 24, .tmp 26]) («as» := [EqA (strV a0), iA a1, bA t108]) R ca222 (ref01_run.con k a0 a1 t108 t109 ht109) R) <| av R R <| nx <| ak R <| ak R <| nt <| qX <| sr ?_
   refine mv R R ?_
   obtain ⟨t110, ht110, h⟩ := vx h
   refine p1 R 28 R (vQ (f := 221) (A := bA t110) (xs := [.tmp 28]) («as» := [EqA (.int .u8 (bt a0 a1))]) R ca221 (ref01_digit.con k (bt a0 a1) t110 ht110) R) <| qz <| qw (env' := [(29, _), (10, _), (9, _), (8, _), (4, _), (1, _), (0, _)]) (.o4 R (.o2 R (.one R (.nil _)))) <| qq ?_
   refine W.jn2 (Γ := Unit) (fun (_ : Unit) (x9 : Int) (x10 : Int) => [(0, EqA (strV a0)), (1, iA a1), (4, EqA (.pointer (some ⟨b100, 0, none⟩))), (8, iA t109), (9, iA x9), (10, iA x10)]) (fun (_ : Unit) (_ : Int) (_ : Int) => [BoxE b100 [iA 0, EqA (strV ([] : Str)), iA 0]]) h (fun _ x9 x10 h => ?_) (fun j113 Kj113 h => ?_)
   ·refine qq <| qX <| sr <| mv R R <| mv R R <| p2 R 30 R 31 R (qB R R) <| nt ?_
    refine qZ h R (fun hb114 h => ?_) (fun hb114 h => ?_)
    ·refine sr <| WL.p R R R .nil (q_build (is := []) (xs := []) (L := [iA 0, EqA (strV ([] : Str)), iA 0]) R R z226 pl226 R R .nil R) <| WL.w0 [0] R (qQ R) R (.s 4 R (.s 33 R .nil)) (w_store (L := [iA 0, EqA (strV ([] : Str)), iA 0]) R sh226 (qj _) R R (leB R) R) ?_
     rintro _ _ ⟨rfl, rfl⟩
     refine ak R <| ak R <| qz <| qw (env' := [(6, _), (5, _), (4, _)]) (.o2 R (.one R (.nil _))) <| qq <| vq <| qy <| qy ?_
     cases h
     exact QR.f3 R R (.cs (i := 0) R sh226 R R) (.t R) (.t R) (.id _)
    ·refine qK <| qq <| sr <| mv R R <| mv R R <| mv R R <| mv R R <| mv R R ?_
     obtain ⟨c115, h⟩ := qV h
     refine p2 R 37 R 38 R (vV R c115) ?_
     obtain ⟨c116, h⟩ := qV h
     refine WL.p R R R (.s 35 R (.s 36 R (.s 39 R .nil))) (q_ssubLH R iss9 c116.1 c116.2.1 c116.2.2) <| p2 R 34 R 40 R (q_build (is := [0, 1]) (xs := [.tmp 34, .tmp 40]) (L := [iA x9, EqA (strV ((a0.take ((a1 + t109) : Int).toNat).drop (a1 : Int).toNat)), iA 0]) R R z226 pl226 R R (.cons (qW R) (.cons (qW R) .nil)) R) <| mv R R <| WL.w0 [0] R (qQ R) R (.s 4 R (.s 41 R .nil)) (w_store (L := [iA x9, EqA (strV ((a0.take ((a1 + t109) : Int).toNat).drop (a1 : Int).toNat)), iA 0]) R sh226 (qj _) R R (leB R) R) ?_
     rintro _ _ ⟨rfl, rfl⟩
     refine av R R <| ak R <| qz <| qw (env' := [(6, _), (5, _), (4, _)]) (.o2 R (.one R (.nil _))) <| qq <| vq <| qy ?_
     cases h
     exact QR.f3 R R (.cs (i := 0) R sh226 R R) (.t R) (.t R) (.id _)
   ·refine qZ h R (fun hb117 h => ?_) (fun hb117 h => ?_)
    ·refine qJ <| ak R <| ak R <| qz ?_
     exact qw (.o4 R (.o2 R (.nil _))) (Kj113 () 2 9 h)
    ·refine qK ?_
     exact qw (.o4 R (.o2 R (.nil _))) (Kj113 () 1 20 h)
  ·refine qK <| qq <| qX <| sr <| mv R R <| pk R 43 R (qB R R) <| nt ?_
   refine qZ h R (fun hb118 h => ?_) (fun hb118 h => ?_)
   ·refine sr <| mv R R <| mv R R ?_
    obtain ⟨t119, ht119, h⟩ := vx h
    refine p2 R 45 R 46 R (vQ (f := 223) (A := iA t119) (xs := [.tmp 45, .tmp 46]) («as» := [EqA (strV a0), iA a1]) R ca223 (ref01_quoted.con k a0 a1 t119 ht119) R) <| av R R <| qz <| qw (env' := [(11, _), (4, _), (1, _), (0, _)]) (.o4 R (.nil _)) <| qq <| qX <| sr <| mv R R <| pk R 48 R (qB R R) <| nt ?_
    refine qZ h R (fun hb120 h => ?_) (fun hb120 h => ?_)
    ·refine sr <| WL.p R R R .nil (q_build (is := []) (xs := []) (L := [iA 0, EqA (strV ([] : Str)), iA 0]) R R z226 pl226 R R .nil R) <| WL.w0 [0] R (qQ R) R (.s 4 R (.s 50 R .nil)) (w_store (L := [iA 0, EqA (strV ([] : Str)), iA 0]) R sh226 (qj _) R R (leB R) R) ?_
     rintro _ _ ⟨rfl, rfl⟩
     refine ak R <| ak R <| nt <| vq <| qy <| qy ?_
     cases h
     exact QR.f3 R R (.cs (i := 0) R sh226 R R) (.t R) (.t R) (.id _)
    ·refine qK <| qq <| qX <| sr <| mv R R ?_
     obtain ⟨c121, h⟩ := qV h
     refine pk R 51 R (q_subR R c121) <| pk R 52 R (qB R R) <| nt ?_
     refine qZ h R (fun hb122 h => ?_) (fun hb122 h => ?_)
     ·refine sr <| WL.p R R R .nil (q_build (is := []) (xs := []) (L := [iA 0, EqA (strV ([] : Str)), iA 0]) R R z226 pl226 R R .nil R) <| WL.w0 [0] R (qQ R) R (.s 4 R (.s 54 R .nil)) (w_store (L := [iA 0, EqA (strV ([] : Str)), iA 0]) R sh226 (qj _) R R (leB R) R) ?_
      rintro _ _ ⟨rfl, rfl⟩
      refine ak R <| ak R <| qz <| qw (env' := [(6, _), (5, _), (4, _)]) (.o2 R (.one R (.nil _))) <| qq <| vq <| qy <| qy ?_
      cases h
      exact QR.f3 R R (.cs (i := 0) R sh226 R R) (.t R) (.t R) (.id _)
     ·refine qK <| qq <| sr <| mv R R <| mv R R ?_
      obtain ⟨c123, h⟩ := qV h
      refine pk R 56 R (vV R c123) <| mv R R <| mv R R ?_
      obtain ⟨c124, h⟩ := qV h
      refine p2 R 58 R 59 R (vV R c124) ?_
      obtain ⟨c125, h⟩ := qV h
      refine pk R 60 R (q_subR R c125) ?_
      obtain ⟨c126, h⟩ := qV h
      refine WL.p R R R (.s 55 R (.s 57 R (.s 61 R .nil))) (q_ssubLH R iss9 c126.1 c126.2.1 c126.2.2) <| WL.p R R R (.k (.s 62 R .nil)) (q_build (is := [0, 1]) (xs := [.const (.int .i64 3), .tmp 62]) (L := [iA 3, EqA (strV ((a0.take (((a1 + t119) - 1) : Int).toNat).drop ((a1 + 1) : Int).toNat)), iA 0]) R R z226 pl226 R R (.cons (qW R) (.cons (qW R) .nil)) R) <| mv R R <| WL.w0 [0] R (qQ R) R (.s 4 R (.s 63 R .nil)) (w_store (L := [iA 3, EqA (strV ((a0.take (((a1 + t119) - 1) : Int).toNat).drop ((a1 + 1) : Int).toNat)), iA 0]) R sh226 (qj _) R R (leB R) R) ?_
      rintro _ _ ⟨rfl, rfl⟩
      refine av R R <| ak R <| qz <| qw (env' := [(6, _), (5, _), (4, _)]) (.o2 R (.one R (.nil _))) <| qq <| vq <| qy ?_
      cases h
      exact QR.f3 R R (.cs (i := 0) R sh226 R R) (.t R) (.t R) (.id _)
   ·refine qK <| qq <| sr ?_
    obtain ⟨t127, ht127, h⟩ := vx h
    refine WL.p R R R .nil (vQ (f := 224) (A := SlcA kStr t127) (xs := []) («as» := []) R ca224 (ref01_signs.con k  t127 ht127) R) <| av R R <| nt <| qX <| sr <| ak R <| nt <| vy ?_
    refine W.loop1 (Γ := Unit) (fun (_ : Unit) (x13 : Int) => [(0, EqA (strV a0)), (1, iA a1), (4, EqA (.pointer (some ⟨b100, 0, none⟩))), (12, SlcA kStr t127), (13, iA x13)]) (fun (_ : Unit) (_ : Int) => [BoxE b100 [iA 0, EqA (strV ([] : Str)), iA 0]]) h () (.o4 R (.one R (.nil _))) R (fun rec0 K0 next0 _ x13 h => ?_)
    unfold ref01_one.b0 at h
    refine qX <| sr <| mv R R <| mv R R <| p1 R 67 R (vB R elS93) <| p2 R 66 R 68 R (qB R R) <| nt ?_
    refine qZ h R (fun hb192 h => ?_) (fun hb192 h => ?_)
    ·refine qK <| qq <| qX <| vy <| qX ?_
     refine W.jn1 (Γ := Unit) (fun (_ : Unit) (x98 : Bool) => [(0, EqA (strV a0)), (1, iA a1), (4, EqA (.pointer (some ⟨b100, 0, none⟩))), (12, SlcA kStr t127), (13, iA x13), (98, bA x98)]) (fun (_ : Unit) (_ : Bool) => [BoxE b100 [iA 0, EqA (strV ([] : Str)), iA 0]]) h (fun _ x98 h => ?_) (fun j208 Kj208 h => ?_)
     ·refine qq ?_
      refine qZ h R (fun hb209 h => ?_) (fun hb209 h => ?_)
      ·refine qX <| W.drawK [(0, false), (1, false), (2, false), (3, false), (4, false), (5, false), (6, false), (7, false), (8, false), (9, false)] [10, 11, 12] (bm [0, 0, 3, 7, 15, 0, 0, 96, 224, 480, 31, 2047, 4095]) mx (by kernel_rfl) <| dm R R R <| dm R R R ?_
       obtain ⟨c214, h⟩ := qV h
       refine qx R R (.p R (.s 99 R (.s 100 R .nil)) R (vX R el93 R c214.1 c214.2)) <| dl R R R sh9 <| qx R R (.p R (.k (.s 102 R .nil)) R (q_build (is := [0, 1]) (xs := [.const (.int .i64 4), .tmp 102]) (L := [iA 4, EqA (strV (rd t127 x13)), iA 0]) R R z226 pl226 R R (.cons (qW R) (.cons (qW R) .nil)) R)) <| dm R R R <| dm R R R ?_
       obtain ⟨c215, h⟩ := qV h
       refine qx R R (.p R (.s 104 R (.s 105 R .nil)) R (vX R el93 R c215.1 c215.2)) <| dl R R R sh9 <| qx R R (.p R (.s 107 R .nil) R (q_slen (s := (rd t127 x13)) R iss9)) <| DK.nil <| CSteps.w0 [0] R R R (.s 4 R (.s 103 R .nil)) R (w_store (L := [iA 4, EqA (strV (rd t127 x13)), iA 0]) R sh226 (qj _) R R (leB R) R) ?_
       rintro _ _ ⟨rfl, rfl⟩
       refine CSteps.p R R R (.s 108 R .nil) R (q_assign R) <| CSteps.p R R R (.k .nil) R (q_assign R) <| CSteps.nil <| qw (env' := [(6, _), (5, _), (4, _)]) (.o2 R (.one R (.nil _))) <| qq <| vq <| vj <| qy <| qy <| vj <| qy ?_
       cases h
       exact QR.f3 R R (.cs (i := 0) R sh226 R R) (.t R) (.t R) (.id _)
      ·refine qK <| vJ <| qq <| qJ <| mv R R ?_
       obtain ⟨c216, h⟩ := qV h
       refine pk R 70 R (vV R c216) <| av R R <| qz ?_
       exact next0 () (x13 + 1) _ h (.o4 R (.one R (.nil _)))
     ·refine W.drawK [(0, false), (1, false), (2, false), (3, false), (4, false), (5, false), (6, false), (7, false), (8, false), (9, false), (10, false), (11, false), (12, false), (13, false), (14, false), (15, false), (16, false), (17, false), (18, false), (19, false), (20, false), (21, false), (22, false), (23, false), (24, false), (25, false), (26, false)] [] (bm [0, 0, 0, 6, 14, 30, 63, 0, 128, 511, 1023, 2047, 2047, 2047, 2047, 2047, 51199, 116735, 247807, 518143, 1048575, 2047, 2047, 6293503, 14682111, 33554431, 67108863]) mx (by kernel_rfl) <| dm R R R <| dm R R R <| dm R R R ?_
      obtain ⟨c217, h⟩ := qV h
      refine qx R R (.p R (.s 73 R (.s 74 R .nil)) R (vX R el93 R c217.1 c217.2)) <| dl R R R sh9 <| qx R R (.p R (.s 76 R .nil) R (q_slen (s := (rd t127 x13)) R iss9)) ?_
      obtain ⟨c218, h⟩ := qV h
      refine qx R R (.p R (.s 72 R (.s 77 R .nil)) R (vV R c218)) <| dm R R R <| qx R R (.p R (.s 79 R .nil) R (q_slen (s := a0) R iss9)) <| qx R R (.p R (.s 78 R (.s 80 R .nil)) R (qB R R)) <| dm R R R ?_
      rcases bif_s h with ⟨hb219, h⟩ | ⟨hb219, h⟩
      ·refine qx R R (.gp R R R hb219 (.s 0 R .nil) R (q_move R)) <| qx R R (.gp R R R hb219 (.s 1 R .nil) R (q_move R)) <| qx R R (.gp R R R hb219 (.s 1 R .nil) R (q_move R)) <| qx R R (.gp R R R hb219 (.s 12 R .nil) R (q_move R)) <| qx R R (.gp R R R hb219 (.s 13 R .nil) R (q_move R)) ?_
       obtain ⟨c220, h⟩ := qV h
       refine qx R R (.gp R R R hb219 (.s 86 R (.s 87 R .nil)) R (vX R el93 R c220.1 c220.2)) <| qx R R (.gp R R R hb219 (.s 88 R .nil) R (q_load R sh9)) <| qx R R (.gp R R R hb219 (.s 89 R .nil) R (q_slen (s := (rd t127 x13)) R iss9)) ?_
       obtain ⟨c221, h⟩ := qV h
       refine qx R R (.gp R R R hb219 (.s 85 R (.s 90 R .nil)) R (vV R c221)) ?_
       obtain ⟨c222, h⟩ := qV h
       refine qx R R (.gp R R R hb219 (.s 83 R (.s 84 R (.s 91 R .nil))) R (q_ssubLH R iss9 c222.1 c222.2.1 c222.2.2)) <| qx R R (.gp R R R hb219 (.s 12 R .nil) R (q_move R)) <| qx R R (.gp R R R hb219 (.s 13 R .nil) R (q_move R)) ?_
       obtain ⟨c223, h⟩ := qV h
       refine qx R R (.gp R R R hb219 (.s 93 R (.s 94 R .nil)) R (vX R el93 R c223.1 c223.2)) <| qx R R (.gp R R R hb219 (.s 95 R .nil) R (q_load R sh9)) <| qx R R (.gp R R R hb219 (.s 92 R (.s 96 R .nil)) R (q_str (s := ((a0.take ((a1 + ((rd t127 x13).length : Int)) : Int).toNat).drop (a1 : Int).toNat)) (t := (rd t127 x13)) R)) <| qx R R (.p R (.s 82 R (.s 97 R .nil)) R (vz R hb219)) <| DK.nil <| CSteps.nil ?_
       exact qw (.o4 R (.o2 R (.nil _))) (Kj208 () (((a0.take ((a1 + ((rd t127 x13).length : Int)) : Int).toNat).drop (a1 : Int).toNat) == (rd t127 x13)) h)
      ·refine dx R R R hb219 <| dx R R R hb219 <| dx R R R hb219 <| dx R R R hb219 <| dx R R R hb219 <| dx R R R hb219 <| dx R R R hb219 <| dx R R R hb219 <| dx R R R hb219 <| dx R R R hb219 <| dx R R R hb219 <| dx R R R hb219 <| dx R R R hb219 ?_
       refine dx R R R hb219 <| dx R R R hb219 <| qx R R (.p R (.s 82 R (.k .nil)) R (vw R hb219)) <| DK.nil <| CSteps.nil ?_
       exact qw (.o4 R (.o2 R (.nil _))) (Kj208 () false h)
    ·refine bz <| qN <| qN <| bq <| qw (env' := [(4, _)]) (.one R (.nil _)) <| qq <| sr <| WL.p R R R .nil (q_build (is := []) (xs := []) (L := [iA 0, EqA (strV ([] : Str)), iA 0]) R R z226 pl226 R R .nil R) <| WL.w0 [0] R (qQ R) R (.s 4 R (.s 109 R .nil)) (w_store (L := [iA 0, EqA (strV ([] : Str)), iA 0]) R sh226 (qj _) R R (leB R) R) ?_
     rintro _ _ ⟨rfl, rfl⟩
     refine ak R <| ak R <| nt <| vq ?_
     cases h
     exact QR.f3 R R (.cs (i := 0) R sh226 R R) (.t R) (.t R) (.id _)
 ·refine qJ <| mv R R ?_
  obtain ⟨t224, ht224, h⟩ := vx h
  refine p1 R 17 R (vQ (f := 220) (A := bA t224) (xs := [.tmp 17]) («as» := [EqA (.int .u8 (bt a0 a1))]) R ca220 (ref01_letter.con k (bt a0 a1) t224 ht224) R) <| mv R R ?_
  rcases bif_s h with ⟨hb225, h⟩ | ⟨hb225, h⟩
  ·refine sk R R R hb225 <| sk R R R hb225 <| pk R 19 R (vz R hb225) <| qz ?_
   exact qw (.o4 R (.one R (.nil _))) (Kj106 () true h)
  ·refine wm R R R hb225 R R ?_
   obtain ⟨t226, ht226, h⟩ := vx h
   refine wq R R R hb225 (.s 20 R .nil) (vQ (f := 221) (A := bA t226) (xs := [.tmp 20]) («as» := [EqA (.int .u8 (bt a0 a1))]) R ca221 (ref01_digit.con k (bt a0 a1) t226 ht226) R).o <| p2 R 19 R 21 R (vw R hb225) <| qz ?_
   exact qw (.o4 R (.one R (.nil _))) (Kj106 () t226 h)
end Go.Proofs.YtcgdfjpeboiioaaGreat
