import Derived.Test.YtcgdfjpeboiioaaGreatMtC8
namespace Go.Proofs.YtcgdfjpeboiioaaGreat
open Go Go.Abs
attribute [local irreducible] Tryz.prog
theorem ref17_given.con (k : Nat) (a0 : Types) (a1 : Graph) (a2 : Graph) (r : Int) (h : ref17_given k a0 a1 a2 = some r) : Con Tryz.prog 117 [] [AggA [SlcA kNodeType a0.fNodes, SlcA kEdgeType a0.fEdges], AggA [SlcA kInt a1.fNodes, SlcA kEdge a1.fEdges], AggA [SlcA kInt a2.fNodes, SlcA kEdge a2.fEdges]] (RA (iA r)) := by
 unfold ref17_given at h
 refine vZ (N := 39) Tryz.func117 R R R fun w0_ fg_ => sr <| p1 R 0 R (bx R (qj _)) <| p1 R 1 R (bx R (qj _)) <| p1 R 2 R (bx R (qj _)) <| ak R <| nt <| qX <| sr <| lS R R sh35 R R ?_
 obtain ⟨t100, ht100, h⟩ := vx h
 refine p1 R 12 R (vQ (f := 58) (A := TupA [EqA (strV t100.1), iA t100.2]) (xs := [.tmp 12]) («as» := [AggA [SlcA kNodeType a0.fNodes, SlcA kEdgeType a0.fEdges]]) R ca58 (ref04_Valid.con k a0 t100 ht100) R) <| mv R R <| p1 R 11 R (vK R R) <| p1 R 11 R (vK R R) <| av R R <| av R R <| qz <| qw (env' := [(8, _), (5, _), (4, _), (3, _)]) (.o4 R (.nil _)) <| qq <| sr <| mv R R <| pk R 16 R (qB R R) ?_
 refine nt ?_
 refine qZ h R (fun hb101 h => ?_) (fun hb101 h => ?_)
 ·refine sr <| mv R R <| av R R <| qz <| qw (env' := [(6, _)]) (.one R (.nil _)) <| qq <| vq <| qy ?_
  cases h
  exact vW R R (.t R) (.id _)
 ·refine qK <| qq <| qX <| sr <| lS R R sh38 R R ?_
  obtain ⟨t102, ht102, h⟩ := vx h
  refine p1 R 19 R (vQ (f := 59) (A := iA t102) (xs := [.tmp 19]) («as» := [AggA [SlcA kInt a1.fNodes, SlcA kEdge a1.fEdges]]) R ca59 (ref05_Valid.con k a1 t102 ht102) R) <| av R R <| nx <| mv R R <| pk R 21 R (qB R R) <| nt ?_
  refine qZ h R (fun hb103 h => ?_) (fun hb103 h => ?_)
  ·refine sr <| mv R R <| av R R <| qz <| qw (env' := [(6, _)]) (.one R (.nil _)) <| qq <| vq <| qy ?_
   cases h
   exact vW R R (.t R) (.id _)
  ·refine qK <| qw (env' := [(5, _), (4, _), (3, _)]) (.o2 R (.one R (.nil _))) <| qq <| qX <| sr <| lS R R sh38 R R ?_
   obtain ⟨t104, ht104, h⟩ := vx h
   refine p1 R 24 R (vQ (f := 59) (A := iA t104) (xs := [.tmp 24]) («as» := [AggA [SlcA kInt a2.fNodes, SlcA kEdge a2.fEdges]]) R ca59 (ref05_Valid.con k a2 t104 ht104) R) <| av R R <| nx <| mv R R <| pk R 26 R (qB R R) <| nt ?_
   refine qZ h R (fun hb105 h => ?_) (fun hb105 h => ?_)
   ·refine sr <| mv R R <| av R R <| qz <| qw (env' := [(6, _)]) (.one R (.nil _)) <| qq <| vq <| qy ?_
    cases h
    exact vW R R (.t R) (.id _)
   ·refine qK <| qq <| qX <| qX ?_
    refine W.jn1 (Γ := Unit) (fun (_ : Unit) (x38 : Bool) => [(38, bA x38)]) (fun (_ : Unit) (_ : Bool) => []) h (fun _ x38 h => ?_) (fun j110 Kj110 h => ?_)
    ·refine qq ?_
     refine qZ h R (fun hb111 h => ?_) (fun hb111 h => ?_)
     ·refine sr <| ak R <| nt <| vq <| qy ?_
      cases h
      exact vW R R (.t R) (.id _)
     ·refine qK <| qq <| sr <| ak R <| nt <| vq ?_
      cases h
      exact vW R R (.t R) (.id _)
    ·refine qJ <| lS R R sh35 R R <| lS R R sh38 R R ?_
     obtain ⟨t112, ht112, h⟩ := vx h
     refine p2 R 29 R 30 R (vQ (f := 60) (A := bA t112) (xs := [.tmp 29, .tmp 30]) («as» := [AggA [SlcA kNodeType a0.fNodes, SlcA kEdgeType a0.fEdges], AggA [SlcA kInt a1.fNodes, SlcA kEdge a1.fEdges]]) R ca60 (ref17_Typed.con k a0 a1 t112 ht112) R) <| p1 R 31 R (q_not R) <| mv R R ?_
     rcases bif_s h with ⟨hb113, h⟩ | ⟨hb113, h⟩
     ·refine sk R R R hb113 <| sk R R R hb113 <| sk R R R hb113 <| sk R R R hb113 <| pk R 33 R (vz R hb113) <| qz ?_
      exact qw (.one R (.nil _)) (Kj110 () true h)
     ·refine wq R R R hb113 (.s 3 R .nil) (q_loadS R sh35 (leB R) R).o <| wq R R R hb113 (.s 5 R .nil) (q_loadS R sh38 (leB R) R).o ?_
      obtain ⟨t114, ht114, h⟩ := vx h
      refine wq R R R hb113 (.s 34 R (.s 35 R .nil)) (vQ (f := 60) (A := bA t114) (xs := [.tmp 34, .tmp 35]) («as» := [AggA [SlcA kNodeType a0.fNodes, SlcA kEdgeType a0.fEdges], AggA [SlcA kInt a2.fNodes, SlcA kEdge a2.fEdges]]) R ca60 (ref17_Typed.con k a0 a2 t114 ht114) R).o <| wq R R R hb113 (.s 36 R .nil) (q_not R).o <| p2 R 33 R 37 R (vw R hb113) <| qz ?_
      exact qw (.one R (.nil _)) (Kj110 () (!t114) h)
theorem ref17_Light.con (k : Nat) (a0 : Types) (a1 : Graph) (a2 : Graph) (r : Bool) (h : ref17_Light k a0 a1 a2 = some r) : Con Tryz.prog 71 [] [AggA [SlcA kNodeType a0.fNodes, SlcA kEdgeType a0.fEdges], AggA [SlcA kInt a1.fNodes, SlcA kEdge a1.fEdges], AggA [SlcA kInt a2.fNodes, SlcA kEdge a2.fEdges]] (RA (bA r)) := by
 unfold ref17_Light at h
 refine vZ (N := 46) Tryz.func71 R R R fun w0_ fg_ => sr <| p1 R 0 R (bx R (qj _)) <| p1 R 1 R (bx R (qj _)) <| p1 R 2 R (bx R (qj _)) <| ak R <| nt <| qX ?_
 refine W.jn1 (Γ := Unit) (fun (_ : Unit) (x6 : Bool) => [(6, bA x6)]) (fun (_ : Unit) (_ : Bool) => []) h (fun _ x6 h => ?_) (fun j112 Kj112 h => ?_)
 ·refine qq <| vq ?_
  cases h
  exact vW R R (.t R) (.id _)
 ·refine qJ <| lS R R sh35 R R ?_
  obtain ⟨t113, ht113, h⟩ := vx h
  refine p1 R 7 R (vQ (f := 13) (A := bA t113) (xs := [.tmp 7]) («as» := [AggA [SlcA kNodeType a0.fNodes, SlcA kEdgeType a0.fEdges]]) R ca13 (ref04_Few.con k a0 t113 ht113) R) <| mv R R ?_
  rcases bif_s h with ⟨hb114, h⟩ | ⟨hb114, h⟩
  ·refine wq R R R hb114 (.s 4 R .nil) (q_loadS R sh38 (leB R) R).o ?_
   obtain ⟨t115, ht115, h⟩ := vx h
   refine wq R R R hb114 (.s 10 R .nil) (vQ (f := 43) (A := bA t115) (xs := [.tmp 10]) («as» := [AggA [SlcA kInt a1.fNodes, SlcA kEdge a1.fEdges]]) R ca43 (ref05_Few.con k a1 t115 ht115) R).o <| p2 R 9 R 11 R (vz R hb114) <| mv R R ?_
   rcases bif_s h with ⟨hb116, h⟩ | ⟨hb116, h⟩
   ·refine wq R R R hb116 (.s 5 R .nil) (q_loadS R sh38 (leB R) R).o ?_
    obtain ⟨t117, ht117, h⟩ := vx h
    refine wq R R R hb116 (.s 14 R .nil) (vQ (f := 43) (A := bA t117) (xs := [.tmp 14]) («as» := [AggA [SlcA kInt a2.fNodes, SlcA kEdge a2.fEdges]]) R ca43 (ref05_Few.con k a2 t117 ht117) R).o <| p2 R 13 R 15 R (vz R hb116) <| mv R R ?_
    rcases bif_s h with ⟨hb118, h⟩ | ⟨hb118, h⟩
    ·refine wq R R R hb118 (.s 3 R .nil) (q_loadS R sh35 (leB R) R).o <| wq R R R hb118 (.s 4 R .nil) (q_loadS R sh38 (leB R) R).o <| wq R R R hb118 (.s 5 R .nil) (q_loadS R sh38 (leB R) R).o ?_
     obtain ⟨t119, ht119, h⟩ := vx h
     refine wq R R R hb118 (.s 18 R (.s 19 R (.s 20 R .nil))) (vQ (f := 117) (A := iA t119) (xs := [.tmp 18, .tmp 19, .tmp 20]) («as» := [AggA [SlcA kNodeType a0.fNodes, SlcA kEdgeType a0.fEdges], AggA [SlcA kInt a1.fNodes, SlcA kEdge a1.fEdges], AggA [SlcA kInt a2.fNodes, SlcA kEdge a2.fEdges]]) R ca117 (ref17_given.con k a0 a1 a2 t119 ht119) R).o <| wq R R R hb118 (.s 21 R (.k .nil)) (qB R R).o <| wm R R R hb118 R R ?_
     rcases bif_s h with ⟨hb120, h⟩ | ⟨hb120, h⟩
     ·refine sk R R R hb120 <| sk R R R hb120 <| sk R R R hb120 <| sk R R R hb120 <| sk R R R hb120 <| sk R R R hb120 <| sk R R R hb120 <| sk R R R hb120 <| sk R R R hb120 <| su R R R <| su R R R <| su R R R <| su R R R ?_
      refine sk R R R hb120 <| sk R R R hb120 <| su R R R <| su R R R <| su R R R <| su R R R <| sk R R R hb120 <| wq R R R hb118 (.s 23 R (.k .nil)) (vz R hb120).o <| p2 R 17 R 44 R (vz R hb118) <| av R R <| qz ?_
      exact qw (.one R (.nil _)) (Kj112 () true h)
     ·refine wf R R R hb120 R R fo38_0 R <| wl R R R hb120 R R sh26 <| wq R R R hb120 (.s 25 R .nil) (vB R elS26).o <| wf R R R hb120 R R fo38_1 R <| wl R R R hb120 R R sh36 <| wq R R R hb120 (.s 28 R .nil) (vB R elS36).o ?_
      obtain ⟨c121, h⟩ := qV h
      refine wq R R R hb120 (.s 26 R (.s 29 R .nil)) (vV R c121).o <| wq R R R hb120 (.s 30 R (.k .nil)) (qB R R).o <| wm R R R hb120 R R ?_
      rcases bif_s h with ⟨hb122, h⟩ | ⟨hb122, h⟩
      ·refine wf R R R hb122 R R fo38_0 R <| wl R R R hb122 R R sh26 <| wq R R R hb122 (.s 34 R .nil) (vB R elS26).o <| wq R R R hb122 (.s 35 R (.k .nil)) (qB R R).o <| wq R R R hb120 (.s 32 R (.s 36 R .nil)) (vz R hb122).o <| wm R R R hb120 R R ?_
       rcases bif_s h with ⟨hb123, h⟩ | ⟨hb123, h⟩
       ·refine wf R R R hb123 R R fo38_1 R <| wl R R R hb123 R R sh36 <| wq R R R hb123 (.s 40 R .nil) (vB R elS36).o <| wq R R R hb123 (.s 41 R (.k .nil)) (qB R R).o <| wq R R R hb120 (.s 38 R (.s 42 R .nil)) (vz R hb123).o <| wq R R R hb118 (.s 23 R (.s 43 R .nil)) (vw R hb120).o <| p2 R 17 R 44 R (vz R hb118) <| av R R <| qz ?_
        exact qw (.one R (.nil _)) (Kj112 () (decide ((a2.fEdges.length : Int) ≤ 12)) h)
       ·refine sk R R R hb123 <| sk R R R hb123 <| sk R R R hb123 <| sk R R R hb123 <| wq R R R hb120 (.s 38 R (.k .nil)) (vw R hb123).o <| wq R R R hb118 (.s 23 R (.s 43 R .nil)) (vw R hb120).o <| p2 R 17 R 44 R (vz R hb118) <| av R R <| qz ?_
        exact qw (.one R (.nil _)) (Kj112 () false h)
      ·refine sk R R R hb122 <| sk R R R hb122 <| sk R R R hb122 <| sk R R R hb122 <| wq R R R hb120 (.s 32 R (.k .nil)) (vw R hb122).o <| wm R R R hb120 R R <| sk R R R R <| sk R R R R <| sk R R R R <| sk R R R R <| wq R R R hb120 (.s 38 R (.k .nil)) (vw R R).o <| wq R R R hb118 (.s 23 R (.s 43 R .nil)) (vw R hb120).o <| p2 R 17 R 44 R (vz R hb118) ?_
       refine av R R <| qz ?_
       exact qw (.one R (.nil _)) (Kj112 () false h)
    ·refine sk R R R hb118 <| sk R R R hb118 <| sk R R R hb118 <| sk R R R hb118 <| sk R R R hb118 <| sk R R R hb118 <| su R R R <| su R R R <| su R R R <| su R R R <| su R R R <| su R R R <| su R R R ?_
     refine su R R R <| su R R R <| su R R R <| su R R R <| su R R R <| su R R R <| su R R R <| su R R R <| su R R R <| su R R R <| su R R R <| su R R R <| su R R R ?_
     refine sk R R R hb118 <| pk R 17 R (vw R hb118) <| av R R <| qz ?_
     exact qw (.one R (.nil _)) (Kj112 () false h)
   ·refine sk R R R hb116 <| sk R R R hb116 <| pk R 13 R (vw R hb116) <| mv R R <| sk R R R R <| sk R R R R <| sk R R R R <| sk R R R R <| sk R R R R <| sk R R R R <| su R R R <| su R R R <| su R R R ?_
    refine su R R R <| su R R R <| su R R R <| su R R R <| su R R R <| su R R R <| su R R R <| su R R R <| su R R R <| su R R R <| su R R R <| su R R R <| su R R R ?_
    refine su R R R <| su R R R <| su R R R <| su R R R <| sk R R R R <| pk R 17 R (vw R R) <| av R R <| qz ?_
    exact qw (.one R (.nil _)) (Kj112 () false h)
  ·refine sk R R R hb114 <| sk R R R hb114 <| pk R 9 R (vw R hb114) <| mv R R <| sk R R R R <| sk R R R R <| pk R 13 R (vw R R) <| mv R R <| sk R R R R <| sk R R R R <| sk R R R R <| sk R R R R <| sk R R R R ?_
   refine sk R R R R <| su R R R <| su R R R <| su R R R <| su R R R <| su R R R <| su R R R <| su R R R <| su R R R <| su R R R <| su R R R <| su R R R <| su R R R ?_
   refine su R R R <| su R R R <| su R R R <| su R R R <| su R R R <| su R R R <| su R R R <| su R R R <| sk R R R R <| pk R 17 R (vw R R) <| av R R <| qz ?_
   exact qw (.one R (.nil _)) (Kj112 () false h)
theorem ref21_Light.con (k : Nat) (a0 : Types) (a1 : Pattern) (a2 : Host) (r : Bool) (h : ref21_Light k a0 a1 a2 = some r) : Con Tryz.prog 24 [] [AggA [SlcA kNodeType a0.fNodes, SlcA kEdgeType a0.fEdges], AggA [SlcA kInt a1.fGraph.fNodes, SlcA kEdge a1.fGraph.fEdges, SlcA kSlot a1.fSlots, iA a1.fVars, SlcA kTest a1.fTests], AggA [SlcA kInt a2.fGraph.fNodes, SlcA kEdge a2.fGraph.fEdges, SlcA (kSl kInt) a2.fValues]] (RA (bA r)) := by
 unfold ref21_Light at h
 refine vZ (N := 21) Tryz.func24 R R R fun w0_ fg_ => sr <| p1 R 0 R (bx R (qj _)) <| p1 R 1 R (bx R (qj _)) <| p1 R 2 R (bx R (qj _)) <| ak R <| nt <| qX ?_
 refine W.jn1 (Γ := Unit) (fun (_ : Unit) (x6 : Bool) => [(6, bA x6)]) (fun (_ : Unit) (_ : Bool) => []) h (fun _ x6 h => ?_) (fun j106 Kj106 h => ?_)
 ·refine qq <| vq ?_
  cases h
  exact vW R R (.t R) (.id _)
 ·refine qJ <| lS R R sh42 R R ?_
  obtain ⟨t107, ht107, h⟩ := vx h
  refine p1 R 7 R (vQ (f := 14) (A := bA t107) (xs := [.tmp 7]) («as» := [AggA [SlcA kInt a1.fGraph.fNodes, SlcA kEdge a1.fGraph.fEdges, SlcA kSlot a1.fSlots, iA a1.fVars, SlcA kTest a1.fTests]]) R ca14 (ref21_Few.con k a1 t107 ht107) R) <| mv R R ?_
  rcases bif_s h with ⟨hb108, h⟩ | ⟨hb108, h⟩
  ·refine wq R R R hb108 (.s 5 R .nil) (q_loadS R sh60 (leB R) R).o ?_
   obtain ⟨t109, ht109, h⟩ := vx h
   refine wq R R R hb108 (.s 10 R .nil) (vQ (f := 70) (A := bA t109) (xs := [.tmp 10]) («as» := [AggA [SlcA kInt a2.fGraph.fNodes, SlcA kEdge a2.fGraph.fEdges, SlcA (kSl kInt) a2.fValues]]) R ca70 (ref15_Few.con k a2 t109 ht109) R).o <| p2 R 9 R 11 R (vz R hb108) <| mv R R ?_
   rcases bif_s h with ⟨hb110, h⟩ | ⟨hb110, h⟩
   ·refine wq R R R hb110 (.s 3 R .nil) (q_loadS R sh35 (leB R) R).o <| wf R R R hb110 R R fo42_0 R <| wq R R R hb110 (.s 15 R .nil) (q_loadS R sh38 (leB R) R).o <| wf R R R hb110 R R fo60_0 R <| wq R R R hb110 (.s 17 R .nil) (q_loadS R sh38 (leB R) R).o ?_
    obtain ⟨t111, ht111, h⟩ := vx h
    refine wq R R R hb110 (.s 14 R (.s 16 R (.s 18 R .nil))) (vQ (f := 71) (A := bA t111) (xs := [.tmp 14, .tmp 16, .tmp 18]) («as» := [AggA [SlcA kNodeType a0.fNodes, SlcA kEdgeType a0.fEdges], AggA [SlcA kInt a1.fGraph.fNodes, SlcA kEdge a1.fGraph.fEdges], AggA [SlcA kInt a2.fGraph.fNodes, SlcA kEdge a2.fGraph.fEdges]]) R ca71 (ref17_Light.con k a0 a1.fGraph a2.fGraph t111 ht111) R).o <| p2 R 13 R 19 R (vz R hb110) <| av R R <| qz ?_
    exact qw (.one R (.nil _)) (Kj106 () t111 h)
   ·refine sk R R R hb110 <| sk R R R hb110 <| sk R R R hb110 <| sk R R R hb110 <| sk R R R hb110 <| sk R R R hb110 <| pk R 13 R (vw R hb110) <| av R R <| qz ?_
    exact qw (.one R (.nil _)) (Kj106 () false h)
  ·refine sk R R R hb108 <| sk R R R hb108 <| pk R 9 R (vw R hb108) <| mv R R <| sk R R R R <| sk R R R R <| sk R R R R <| sk R R R R <| sk R R R R <| sk R R R R <| pk R 13 R (vw R R) <| av R R <| qz ?_
   exact qw (.one R (.nil _)) (Kj106 () false h)
theorem ref05_Copied.con (k : Nat) (a0 : Graph) (r : Graph) (h : ref05_Copied k a0 = some r) : Con Tryz.prog 46 [] [AggA [SlcA kInt a0.fNodes, SlcA kEdge a0.fEdges]] (fun O' A => ∃ u0 u1, O' = [SlE 3 u0 kInt r.fNodes, SlE 109 u1 kEdge r.fEdges] ∧ A = AggA [HdA u0, HdA u1]) := by
 unfold ref05_Copied at h
 refine vZ (N := 12) Tryz.func46 R R R fun w0_ fg_ => sr <| p1 R 0 R (bx R (qj _)) <| WL.w [] R (qQ R) R R .nil (w_alloc R z38 (l := [EqA (.slice none 0 0), EqA (.slice none 0 0)]) R) ?_
 rintro _ _ ⟨b100, rfl, rfl⟩
 refine nt <| qX <| W.drawK [(0, false), (1, false), (2, false), (4, false), (5, false), (6, false)] [3, 7, 8, 9] (bm [0, 0, 2, 7, 0, 0, 32, 127, 255, 511]) mx (by kernel_rfl) <| qx R R (.p R .nil R (q_lit0 R el26 gr3)) <| df R R R fo38_0 R <| dl R R R sh26 ?_
 obtain ⟨c109, h⟩ := qV h
 refine qx R R (.p R .nil R (q_lit0 R el36 gr109)) <| df R R R fo38_1 R <| dl R R R sh36 ?_
 obtain ⟨c111, h⟩ := qV h
 refine DK.nil <| CSteps.w [] R R R R (.s 3 R (.s 5 R .nil)) R (w_appendZ (kd := kInt) R el26 R gr3 c109) ?_
 rintro _ _ ⟨v110, rfl, rfl⟩
 refine CSteps.w [] R R R R (.s 7 R (.s 9 R .nil)) R (w_appendZ (kd := kEdge) R el36 R gr109 c111) ?_
 rintro _ _ ⟨v112, rfl, rfl⟩
 refine CSteps.p R R R (.s 6 R (.s 10 R .nil)) R (q_build (is := [0, 1]) (xs := [.tmp 6, .tmp 10]) (L := [HdA v110, HdA v112]) R R z38 pl38 R R (.cons (qW R) (.cons (qW R) .nil)) R) <| CSteps.w0 [2] R R R (.s 2 R (.s 11 R .nil)) R (w_store (L := [HdA v110, HdA v112]) R sh38 (qj _) R R (leB R) R) ?_
 rintro _ _ ⟨rfl, rfl⟩
 refine CSteps.nil <| QN.to (StTo.still [0] 2 R R) <| qw (env' := [(2, _)]) (.one R (.nil _)) <| qq <| vq ?_
 cases h
 refine QR.order [1, 0] R ?_
 exact QR.r1 R R (.ps R sh38 R) ⟨v110, v112, R, R⟩
theorem ref21_Copied.con (k : Nat) (a0 : Pattern) (r : Pattern) (h : ref21_Copied k a0 = some r) : Con Tryz.prog 16 [] [AggA [SlcA kInt a0.fGraph.fNodes, SlcA kEdge a0.fGraph.fEdges, SlcA kSlot a0.fSlots, iA a0.fVars, SlcA kTest a0.fTests]] (RA (AggA [SlcA kInt r.fGraph.fNodes, SlcA kEdge r.fGraph.fEdges, SlcA kSlot r.fSlots, iA r.fVars, SlcA kTest r.fTests])) := by
 unfold ref21_Copied at h
 refine vZ (N := 17) Tryz.func16 R R R fun w0_ fg_ => sr <| p1 R 0 R (bx R (qj _)) <| WL.w [] R (qQ R) R R .nil (w_alloc R z42 (l := [EqA (.slice none 0 0), EqA (.slice none 0 0), EqA (.slice none 0 0), iA 0, EqA (.slice none 0 0)]) R) ?_
 rintro _ _ ⟨b100, rfl, rfl⟩
 refine nt <| qX <| W.drawK [(0, false), (1, false), (3, false), (4, false), (5, false), (7, false), (8, false), (9, false), (10, false), (11, false)] [2, 6, 12, 13, 14] (bm [0, 1, 3, 0, 0, 16, 63, 0, 128, 0, 0, 1024, 3711, 8191, 16383]) mx (by kernel_rfl) <| df R R R fo42_0 R <| qx R R (.p R (.s 3 R .nil) R (q_loadS R sh38 (leB R) R)) ?_
 obtain ⟨t111, ht111, h⟩ := vx h
 refine qx R R (.p R .nil R (q_lit0 R el39 gr113)) <| df R R R fo42_1 R <| dl R R R sh39 ?_
 obtain ⟨c114, h⟩ := qV h
 refine df R R R fo42_2 R <| dl R R R sh3 <| qx R R (.p R .nil R (q_lit0 R el40 gr86)) <| df R R R fo42_3 R <| dl R R R sh40 ?_
 obtain ⟨c115, h⟩ := qV h
 refine DK.nil <| CSteps.w [] R R R R (.s 4 R .nil) R (w_callI (f := 46) (xs := [.tmp 4]) («as» := [AggA [SlcA kInt a0.fGraph.fNodes, SlcA kEdge a0.fGraph.fEdges]]) R ca46 (ref05_Copied.con k a0.fGraph t111 ht111) R (.cons (Imp.id _) .nil)) ?_
 rintro _ _ ⟨v112, v113, rfl, rfl⟩
 refine CSteps.p R R R (.s 6 R (.s 8 R .nil)) R (QS.of_new (w_appendZ (kd := kSlot) R el39 R gr113 c114)) <| CSteps.p R R R (.s 12 R (.s 14 R .nil)) R (QS.of_new (w_appendZ (kd := kTest) R el40 R gr86 c115)) <| CSteps.p R R R (.s 5 R (.s 9 R (.s 11 R (.s 15 R .nil)))) R (q_build (is := [0, 1, 2, 3]) (xs := [.tmp 5, .tmp 9, .tmp 11, .tmp 15]) (L := [HdA v112, HdA v113, SlcA kSlot a0.fSlots, iA a0.fVars, SlcA kTest a0.fTests]) R R z42 pl42 R R (.cons (qj _) (.cons (qW R) (.cons (qW R) (.cons (qW R) .nil)))) R) <| CSteps.w0 [2] R R R (.s 2 R (.s 16 R .nil)) R (w_store (L := [HdA v112, HdA v113, SlcA kSlot a0.fSlots, iA a0.fVars, SlcA kTest a0.fTests]) R sh42 (qj _) R R (leB R) R) ?_
 rintro _ _ ⟨rfl, rfl⟩
 refine CSteps.nil <| QN.to (StTo.still [0] 2 R R) <| qw (env' := [(2, _)]) (.one R (.nil _)) <| qq <| vq ?_
 cases h
 exact vW R R (.ps R sh42 R) (.agg (.cons (.slc 0 R) (.cons (.slc 1 R) (.cons (.id _) (.cons (.id _) (.cons (.id _) .nil))))))
theorem ref15_Copied.con (k : Nat) (a0 : Host) (r : Host) (h : ref15_Copied k a0 = some r) : Con Tryz.prog 26 [] [AggA [SlcA kInt a0.fGraph.fNodes, SlcA kEdge a0.fGraph.fEdges, SlcA (kSl kInt) a0.fValues]] (RA (AggA [SlcA kInt r.fGraph.fNodes, SlcA kEdge r.fGraph.fEdges, SlcA (kSl kInt) r.fValues])) := by
 unfold ref15_Copied at h
 refine vZ (N := 29) Tryz.func26 R R R fun w0_ fg_ => sr <| p1 R 0 R (bx R (qj _)) <| WL.w [] R (qQ R) R R .nil (w_alloc R z60 (l := [EqA (.slice none 0 0), EqA (.slice none 0 0), EqA (.slice none 0 0)]) R) ?_
 rintro _ _ ⟨b100, rfl, rfl⟩
 refine nx <| fd R R fo60_0 R <| lS R R sh38 R R ?_
 obtain ⟨t101, ht101, h⟩ := vx h
 refine WL.w [] R (qQ R) R R (.s 6 R .nil) (w_callI (f := 46) (xs := [.tmp 6]) («as» := [AggA [SlcA kInt a0.fGraph.fNodes, SlcA kEdge a0.fGraph.fEdges]]) R ca46 (ref05_Copied.con k a0.fGraph t101 ht101) R (.cons (Imp.id _) .nil)) ?_
 rintro _ _ ⟨v102, v103, rfl, rfl⟩
 refine p1 R 7 R (q_build (is := [0]) (xs := [.tmp 7]) (L := [HdA v102, HdA v103, EqA (.slice none 0 0)]) R R z60 pl60 R R (.cons (qj _) .nil) R) <| WL.w [] R (qQ R) R R .nil (w_alloc R z60 (l := [EqA (.slice none 0 0), EqA (.slice none 0 0), EqA (.slice none 0 0)]) R) ?_
 rintro _ _ ⟨b104, rfl, rfl⟩
 refine WL.w0 [0] R (qQ R) R (.s 3 R (.s 8 R .nil)) (w_store (L := [HdA v102, HdA v103, EqA (.slice none 0 0)]) R sh60 (qj _) R R (leB R) R) ?_
 rintro _ _ ⟨rfl, rfl⟩
 refine nt <| qX <| sr <| ak R <| nt <| vy <| W.to (StTo.boxImp [0] R (.cons (Imp.id _) (.cons (Imp.id _) (.cons Imp.nilHd .nil)))) <| W.to (StTo.newNil 26 (kSl kInt)) <| W.order [4, 1, 1, 1, 0] R ?_
 refine W.loop2 (Γ := Value) (fun (_ : Value) (_ : (List (List Int))) (x4 : Int) => [(1, PtrA [SlcA kInt a0.fGraph.fNodes, SlcA kEdge a0.fGraph.fEdges, SlcA (kSl kInt) a0.fValues]), (2, EqA (.pointer (some ⟨b100, 0, none⟩))), (3, EqA (.pointer (some ⟨b104, 0, none⟩))), (4, iA x4)]) (fun (g0 : Value) (y2 : (List (List Int))) (_ : Int) => [BoxE b100 [EqA (.slice none 0 0), EqA (.slice none 0 0), EqA (.slice none 0 0)], BoxE b104 [HdA v102, HdA v103, HdA g0], SlE 3 v102 kInt t101.fNodes, SlE 109 v103 kEdge t101.fEdges, SlE 26 g0 (kSl kInt) y2]) h (.slice none 0 0) (.o4 R (.nil _)) R (fun rec0 K0 next0 g0 y2 x4 h => ?_)
 unfold ref15_Copied.b0 at h
 refine qX <| sr <| mv R R <| fd R R fo60_1 R <| ld R R sh58 <| p1 R 11 R (vB R elS58) <| p2 R 9 R 12 R (qB R R) <| nt ?_
 refine qZ h R (fun hb140 h => ?_) (fun hb140 h => ?_)
 ·refine qK <| qq <| qX <| vy <| W.drawK [(0, false), (1, true), (2, false), (3, false), (4, false), (5, false), (6, false), (7, false), (8, false), (9, false)] [10, 11, 12] (bm [0, 1, 0, 0, 8, 0, 56, 120, 252, 508, 1023, 2047, 4095]) mx (by kernel_rfl) <| qx R R (.p R (.s 3 R .nil) R (bw R fo60_1)) <| qx R R (.o R (.s 16 R .nil) R (q_loadB R sh58 (i := 1) R R)) <| qx R R (.p R .nil R (q_lit0 R el26 gr3)) <| df R R R fo60_1 R <| dl R R R sh58 <| dm R R R ?_
  obtain ⟨c149, h⟩ := qV h
  refine qx R R (.p R (.s 20 R (.s 21 R .nil)) R (vX R el58 R c149.1 c149.2)) <| dl R R R sh26 ?_
  obtain ⟨c150, h⟩ := qV h
  refine qx R R (.p R (.s 18 R (.s 23 R .nil)) R (QS.of_new (w_appendZ (kd := kInt) R el26 R gr3 c150))) <| qx R R (.p R (.s 24 R .nil) R (q_lit (kd := (kSl kInt)) (ps := [(0, .tmp 24)]) (xs := [.tmp 24]) («as» := [SlcA kInt (rd a0.fValues x4)]) (ys := [(rd a0.fValues x4)]) R R el58 R gr26 R R R (.cons (qW R) .nil))) ?_
  obtain ⟨c151, h⟩ := qV h
  refine DK.nil <| CSteps.w [4] R R R R (.s 17 R (.s 25 R .nil)) R (w_append (kd := (kSl kInt)) R el58 R gr26 c151) ?_
  rintro _ _ ⟨v152, rfl, rfl⟩
  refine CSteps.p R R R (.s 3 R .nil) R (bw R fo60_1) <| CSteps.w0 [2] R R R (.s 27 R (.s 26 R .nil)) R (w_store (L := [HdA v102, HdA v103, HdA v152]) R sh58 (qW R) R R (leB R) R) ?_
  rintro _ _ ⟨rfl, rfl⟩
  refine CSteps.nil <| vJ <| qw (env' := [(4, _), (3, _), (2, _), (1, _)]) (.o4 R (.nil _)) <| qq <| qJ <| mv R R ?_
  obtain ⟨c153, h⟩ := qV h
  refine pk R 14 R (vV R c153) <| av R R <| qz <| QN.order [2, 0, 1, 1, 0] R ?_
  exact next0 v152 (y2 ++ [(rd a0.fValues x4)]) (x4 + 1) _ h (.o4 R (.nil _))
 ·refine bz <| qN <| qN <| bq <| qw (env' := [(3, _), (2, _)]) (.o2 R (.nil _)) <| qq <| sr <| WL.q (qQ R) R R (.s 3 R .nil) (q_loadBS (l' := [HdA v102, HdA v103, HdA g0]) R sh60 (i := 1) R R R) <| WL.w0 [0] R (qQ R) R (.s 2 R (.s 28 R .nil)) (w_store (L := [HdA v102, HdA v103, HdA g0]) R sh60 (qj _) R R (leB R) R) ?_
  rintro _ _ ⟨rfl, rfl⟩
  refine qz <| QN.to (StTo.still [0] 2 R R) <| qq <| vq ?_
  cases h
  exact vW R R (.ps R sh60 R) (.agg (.cons (.slc 1 R) (.cons (.slc 2 R) (.cons (.slc 3 R) .nil))))
theorem ref04_given.con (k : Nat) (a0 : Types) (a1 : Int) (a2 : Int) (r : Int) (h : ref04_given k a0 a1 a2 = some r) : Con Tryz.prog 138 [] [AggA [SlcA kNodeType a0.fNodes, SlcA kEdgeType a0.fEdges], iA a1, iA a2] (RA (iA r)) := by
 unfold ref04_given at h
 refine vZ (N := 33) Tryz.func138 R R R fun w0_ fg_ => sr <| p1 R 0 R (bx R (qj _)) <| ak R <| nt <| qX <| sr <| lS R R sh35 R R ?_
 obtain ⟨t100, ht100, h⟩ := vx h
 refine p1 R 10 R (vQ (f := 58) (A := TupA [EqA (strV t100.1), iA t100.2]) (xs := [.tmp 10]) («as» := [AggA [SlcA kNodeType a0.fNodes, SlcA kEdgeType a0.fEdges]]) R ca58 (ref04_Valid.con k a0 t100 ht100) R) <| mv R R <| p1 R 9 R (vK R R) <| p1 R 9 R (vK R R) <| av R R <| av R R <| qz <| qw (env' := [(8, _), (3, _), (2, _), (1, _)]) (.o4 R (.nil _)) <| qq <| sr <| mv R R <| pk R 14 R (qB R R) ?_
 refine nt ?_
 refine qZ h R (fun hb101 h => ?_) (fun hb101 h => ?_)
 ·refine sr <| mv R R <| av R R <| qz <| qw (env' := [(6, _)]) (.one R (.nil _)) <| qq <| vq <| qy ?_
  cases h
  exact vW R R (.t R) (.id _)
 ·refine qK <| qq <| qX <| qX ?_
  refine W.jn1 (Γ := Unit) (fun (_ : Unit) (x32 : Bool) => [(32, bA x32)]) (fun (_ : Unit) (_ : Bool) => []) h (fun _ x32 h => ?_) (fun j108 Kj108 h => ?_)
  ·refine qq ?_
   refine qZ h R (fun hb109 h => ?_) (fun hb109 h => ?_)
   ·refine sr <| ak R <| nt <| vq <| qy ?_
    cases h
    exact vW R R (.t R) (.id _)
   ·refine qK <| qq <| sr <| ak R <| nt <| vq ?_
    cases h
    exact vW R R (.t R) (.id _)
  ·refine qJ <| mv R R <| fd R R fo35_0 R <| ld R R sh32 <| p1 R 19 R (vB R elS32) ?_
   obtain ⟨c110, h⟩ := qV h
   refine pk R 20 R (q_subR R c110) ?_
   obtain ⟨t111, ht111, h⟩ := vx h
   refine WL.p R R R (.s 17 R (.k (.s 21 R .nil))) (vQ (f := 140) (A := bA t111) (xs := [.tmp 17, .const (.int .i64 0), .tmp 21]) («as» := [iA a1, iA 0, iA ((a0.fNodes.length : Int) - 1)]) R ca140 (ref04_in.con k a1 0 ((a0.fNodes.length : Int) - 1) t111 ht111) R) <| p1 R 22 R (q_not R) <| mv R R ?_
   rcases bif_s h with ⟨hb112, h⟩ | ⟨hb112, h⟩
   ·refine sk R R R hb112 <| sk R R R hb112 <| sk R R R hb112 <| sk R R R hb112 <| sk R R R hb112 <| sk R R R hb112 <| sk R R R hb112 <| pk R 24 R (vz R hb112) <| qz ?_
    exact qw (.one R (.nil _)) (Kj108 () true h)
   ·refine wm R R R hb112 R R <| wf R R R hb112 R R fo35_0 R <| wl R R R hb112 R R sh32 <| wq R R R hb112 (.s 27 R .nil) (vB R elS32).o ?_
    obtain ⟨c113, h⟩ := qV h
    refine wq R R R hb112 (.s 28 R (.k .nil)) (q_subR R c113).o ?_
    obtain ⟨t114, ht114, h⟩ := vx h
    refine wq R R R hb112 (.s 25 R (.k (.s 29 R .nil))) (vQ (f := 140) (A := bA t114) (xs := [.tmp 25, .const (.int .i64 0), .tmp 29]) («as» := [iA a2, iA 0, iA ((a0.fNodes.length : Int) - 1)]) R ca140 (ref04_in.con k a2 0 ((a0.fNodes.length : Int) - 1) t114 ht114) R).o <| wq R R R hb112 (.s 30 R .nil) (q_not R).o <| p2 R 24 R 31 R (vw R hb112) <| qz ?_
    exact qw (.one R (.nil _)) (Kj108 () (!t114) h)
theorem ref04_Attrs.con (k : Nat) (a0 : Types) (a1 : Int) (r : ((List Attr) × Int)) (h : ref04_Attrs k a0 a1 = some r) : Con Tryz.prog 86 [] [AggA [SlcA kNodeType a0.fNodes, SlcA kEdgeType a0.fEdges], iA a1] (RA (TupA [SlcA kAttr r.1, iA r.2])) := by
 unfold ref04_Attrs at h
 refine vZ (N := 41) Tryz.func86 R R R fun w0_ fg_ => sr <| p1 R 0 R (bx R (qj _)) <| ak R <| ak R <| nt <| qX <| sr <| lS R R sh35 R R <| mv R R ?_
 refine mv R R ?_
 obtain ⟨t100, ht100, h⟩ := vx h
 refine WL.p R R R (.s 11 R (.s 12 R (.s 13 R .nil))) (vQ (f := 138) (A := iA t100) (xs := [.tmp 11, .tmp 12, .tmp 13]) («as» := [AggA [SlcA kNodeType a0.fNodes, SlcA kEdgeType a0.fEdges], iA a1, iA a1]) R ca138 (ref04_given.con k a0 a1 a1 t100 ht100) R) <| av R R <| qz <| qw (env' := [(6, _), (2, _), (1, _)]) (.o2 R (.one R (.nil _))) <| qq <| sr <| mv R R <| pk R 15 R (qB R R) <| nt ?_
 refine qZ h R (fun hb101 h => ?_) (fun hb101 h => ?_)
 ·refine sr <| mv R R <| ak R <| av R R <| nt <| vq <| qy ?_
  cases h
  exact QR.f2 R R (.t R) (.t R) (.imp (Imp.tup (.cons (Imp.nil kAttr) (.cons (Imp.id _) .nil))))
 ·refine qK <| qq <| sr <| ak R <| nx <| lS R R sh35 R R <| mv R R ?_
  obtain ⟨t102, ht102, h⟩ := vx h
  refine p2 R 18 R 19 R (vQ (f := 139) (A := SlcA kAttr t102) (xs := [.tmp 18, .tmp 19]) («as» := [AggA [SlcA kNodeType a0.fNodes, SlcA kEdgeType a0.fEdges], iA a1]) R ca139 (ref04_attrs.con k a0 a1 t102 ht102) R) <| av R R <| qz <| qw (env' := [(8, _), (7, _)]) (.o2 R (.nil _)) <| qq <| qX <| sr <| ak R <| nt <| vy <| W.to (StTo.newNil 95 kAttr) ?_
  refine W.to (StTo.as 7 R Imp.nilHd) ?_
  refine W.loop2 (Γ := Value) (fun (g0 : Value) (_ : (List Attr)) (x9 : Int) => [(7, HdA g0), (8, SlcA kAttr t102), (9, iA x9)]) (fun (g0 : Value) (x7 : (List Attr)) (_ : Int) => [SlE 95 g0 kAttr x7]) h (.slice none 0 0) (.o2 R (.one R (.nil _))) R (fun rec0 K0 next0 g0 x7 x9 h => ?_)
  unfold ref04_Attrs.b0 at h
  refine qX <| sr <| mv R R <| mv R R <| p1 R 22 R (vB R elS90) <| p2 R 21 R 23 R (qB R R) <| nt ?_
  refine qZ h R (fun hb124 h => ?_) (fun hb124 h => ?_)
  ·refine qK <| qq <| qX <| vy <| sr <| mv R R <| mv R R ?_
   obtain ⟨c125, h⟩ := qV h
   refine p2 R 27 R 28 R (vX R el90 R c125.1 c125.2) <| lS R R sh95 R R <| WL.w [] R (qQ R) R R .nil (w_alloc R z95 (l := [EqA (strV ([] : Str)), iA 0, iA 0, EqA (.slice none 0 0)]) R) ?_
   rintro _ _ ⟨b126, rfl, rfl⟩
   refine WL.w0 [0] R (qQ R) R (.s 10 R (.s 30 R .nil)) (w_store (L := [EqA (strV ((rd t102 x9).fName)), iA ((rd t102 x9).fLow), iA ((rd t102 x9).fHigh), SlcA kStr ((rd t102 x9).fNames)]) R sh95 (qj _) R R (leB R) R) ?_
   rintro _ _ ⟨rfl, rfl⟩
   refine qz <| qw (env' := [(10, _), (9, _), (8, _), (7, _)]) (.o4 R (.nil _)) <| qq <| sr <| WL.p R R R .nil (q_lit0 R el93 gr9) <| p1 R 10 R (bw R fo95_3) <| WL.q (qQ R) R R (.s 32 R .nil) (q_loadB R sh93 (i := 0) R R) ?_
   obtain ⟨c127, h⟩ := qV h
   refine p2 R 31 R 33 R (QS.of_new (w_appendZ (kd := kStr) R el93 R gr9 c127)) <| p1 R 10 R (bw R fo95_3) <| WL.w0 [0] R (qQ R) R (.s 35 R (.s 34 R .nil)) (w_store (L := [EqA (strV ((rd t102 x9).fName)), iA ((rd t102 x9).fLow), iA ((rd t102 x9).fHigh), SlcA kStr ((rd t102 x9).fNames)]) R sh93 (qW R) R R (leB R) R) ?_
   rintro _ _ ⟨rfl, rfl⟩
   refine nt <| qJ <| mv R R <| WL.q (qQ R) R R (.s 10 R .nil) (q_loadBS (l' := [EqA (strV ((rd t102 x9).fName)), iA ((rd t102 x9).fLow), iA ((rd t102 x9).fHigh), SlcA kStr ((rd t102 x9).fNames)]) R sh95 (i := 0) R R R) <| p1 R 37 R (q_lit (kd := kAttr) (ps := [(0, .tmp 37)]) (xs := [.tmp 37]) («as» := [AggA [EqA (strV ((rd t102 x9).fName)), iA ((rd t102 x9).fLow), iA ((rd t102 x9).fHigh), SlcA kStr ((rd t102 x9).fNames)]]) (ys := [(rd t102 x9)]) R R el90 R gr95 R R R (.cons (qj _) .nil)) ?_
   obtain ⟨c128, h⟩ := qV h
   refine WL.w [1] R (qQ R) R R (.s 36 R (.s 38 R .nil)) (w_append (kd := kAttr) R el90 R gr95 c128) ?_
   rintro _ _ ⟨v129, rfl, rfl⟩
   refine av R R <| qz <| vJ <| qw (env' := [(7, _), (9, _), (8, _)]) (.o2 R (.one R (.nil _))) <| qq <| qJ <| mv R R ?_
   obtain ⟨c130, h⟩ := qV h
   refine pk R 25 R (vV R c130) <| av R R <| qz <| QN.drop [1] R ?_
   exact next0 v129 (x7 ++ [(rd t102 x9)]) (x9 + 1) _ h (.o2 R (.one R (.nil _)))
  ·refine bz <| qN <| qN <| bq <| qq <| sr <| mv R R <| av R R <| ak R <| qz <| qw (env' := [(5, _), (4, _)]) (.o2 R (.nil _)) <| qq ?_
   refine vq ?_
   cases h
   exact QR.f2 R R (.t R) (.t R) (.tup (.cons (.slc 0 R) (.cons (.id _) .nil)))
theorem ref21_attr.con (k : Nat) (a0 : Types) (a1 : Pattern) (a2 : Int) (a3 : Int) (r : (Attr × Bool)) (h : ref21_attr k a0 a1 a2 a3 = some r) : Con Tryz.prog 61 [] [AggA [SlcA kNodeType a0.fNodes, SlcA kEdgeType a0.fEdges], AggA [SlcA kInt a1.fGraph.fNodes, SlcA kEdge a1.fGraph.fEdges, SlcA kSlot a1.fSlots, iA a1.fVars, SlcA kTest a1.fTests], iA a2, iA a3] (RA (TupA [AggA [EqA (strV r.1.fName), iA r.1.fLow, iA r.1.fHigh, SlcA kStr r.1.fNames], bA r.2])) := by
 unfold ref21_attr at h
 refine vZ (N := 51) Tryz.func61 R R R fun w0_ fg_ => sr <| p1 R 0 R (bx R (qj _)) <| p1 R 1 R (bx R (qj _)) <| WL.w [] R (qQ R) R R .nil (w_alloc R z95 (l := [EqA (strV ([] : Str)), iA 0, iA 0, EqA (.slice none 0 0)]) R) ?_
 rintro _ _ ⟨b100, rfl, rfl⟩
 refine ak R <| nt <| qX <| qX ?_
 refine W.jn1 (Γ := Unit) (fun (_ : Unit) (x21 : Bool) => [(2, iA a2), (3, iA a3), (4, PtrA [SlcA kNodeType a0.fNodes, SlcA kEdgeType a0.fEdges]), (5, PtrA [SlcA kInt a1.fGraph.fNodes, SlcA kEdge a1.fGraph.fEdges, SlcA kSlot a1.fSlots, iA a1.fVars, SlcA kTest a1.fTests]), (8, EqA (.pointer (some ⟨b100, 0, none⟩))), (21, bA x21)]) (fun (_ : Unit) (_ : Bool) => [BoxE b100 [EqA (strV ([] : Str)), iA 0, iA 0, EqA (.slice none 0 0)]]) h (fun _ x21 h => ?_) (fun j103 Kj103 h => ?_)
 ·refine qq ?_
  refine qZ h R (fun hb104 h => ?_) (fun hb104 h => ?_)
  ·refine sr <| WL.p R R R .nil (q_build (is := []) (xs := []) (L := [EqA (strV ([] : Str)), iA 0, iA 0, EqA (.slice none 0 0)]) R R z95 pl95 R R .nil R) <| WL.w0 [0] R (qQ R) R (.s 8 R (.s 22 R .nil)) (w_store (L := [EqA (strV ([] : Str)), iA 0, iA 0, EqA (.slice none 0 0)]) R sh95 (qj _) R R (leB R) R) ?_
   rintro _ _ ⟨rfl, rfl⟩
   refine ak R <| nt <| vq <| qy ?_
   cases h
   exact QR.f2 R R (.cs (i := 0) R sh95 R R) (.t R) (.imp (Imp.tup (.cons (Imp.agg (.cons (Imp.id _) (.cons (Imp.id _) (.cons (Imp.id _) (.cons (Imp.nil kStr) .nil))))) (.cons (Imp.id _) .nil))))
  ·refine qK <| qq <| qX <| W.drawK [(0, false), (1, false), (2, false), (3, false), (4, false), (5, false), (6, false), (7, false), (8, false), (9, false), (10, false), (11, false), (12, false)] [] (bm [0, 0, 2, 6, 0, 30, 62, 127, 255, 511, 511, 1023, 4095]) mx (by kernel_rfl) <| qx R R (.p R (.s 4 R .nil) R (q_loadS R sh35 (leB R) R)) <| df R R R fo42_0 R <| df R R R fo38_0 R <| dl R R R sh26 <| dm R R R ?_
   obtain ⟨c109, h⟩ := qV h
   refine qx R R (.p R (.s 27 R (.s 28 R .nil)) R (vX R el26 R c109.1 c109.2)) <| dl R R R sh3 ?_
   obtain ⟨t110, ht110, h⟩ := vx h
   refine qx R R (.p R (.s 24 R (.s 30 R .nil)) R (vQ (f := 86) (A := TupA [SlcA kAttr t110.1, iA t110.2]) (xs := [.tmp 24, .tmp 30]) («as» := [AggA [SlcA kNodeType a0.fNodes, SlcA kEdgeType a0.fEdges], iA (rd a1.fGraph.fNodes a2)]) R ca86 (ref04_Attrs.con k a0 (rd a1.fGraph.fNodes a2) t110 ht110) R)) <| dm R R R <| qx R R (.p R (.s 23 R .nil) R (vK R R)) <| qx R R (.p R (.s 23 R .nil) R (vK R R)) <| qx R R (.p R (.s 32 R .nil) R (q_assign R)) <| qx R R (.p R (.s 33 R .nil) R (q_assign R)) <| DK.nil <| CSteps.nil <| qw (env' := [(11, _), (10, _), (8, _), (3, _)]) (.o4 R (.nil _)) <| qq <| qX <| qX ?_
   refine W.jn1 (Γ := Unit) (fun (_ : Unit) (x45 : Bool) => [(3, iA a3), (8, EqA (.pointer (some ⟨b100, 0, none⟩))), (10, SlcA kAttr t110.1), (45, bA x45)]) (fun (_ : Unit) (_ : Bool) => [BoxE b100 [EqA (strV ([] : Str)), iA 0, iA 0, EqA (.slice none 0 0)]]) h (fun _ x45 h => ?_) (fun j114 Kj114 h => ?_)
   ·refine qq ?_
    refine qZ h R (fun hb115 h => ?_) (fun hb115 h => ?_)
    ·refine sr <| WL.p R R R .nil (q_build (is := []) (xs := []) (L := [EqA (strV ([] : Str)), iA 0, iA 0, EqA (.slice none 0 0)]) R R z95 pl95 R R .nil R) <| WL.w0 [0] R (qQ R) R (.s 8 R (.s 46 R .nil)) (w_store (L := [EqA (strV ([] : Str)), iA 0, iA 0, EqA (.slice none 0 0)]) R sh95 (qj _) R R (leB R) R) ?_
     rintro _ _ ⟨rfl, rfl⟩
     refine ak R <| nt <| vq <| qy ?_
     cases h
     exact QR.f2 R R (.cs (i := 0) R sh95 R R) (.t R) (.imp (Imp.tup (.cons (Imp.agg (.cons (Imp.id _) (.cons (Imp.id _) (.cons (Imp.id _) (.cons (Imp.nil kStr) .nil))))) (.cons (Imp.id _) .nil))))
    ·refine qK <| qq <| sr <| mv R R <| mv R R ?_
     obtain ⟨c116, h⟩ := qV h
     refine p2 R 47 R 48 R (vX R el90 R c116.1 c116.2) <| lS R R sh95 R R <| WL.w0 [0] R (qQ R) R (.s 8 R (.s 50 R .nil)) (w_store (L := [EqA (strV ((rd t110.1 a3).fName)), iA ((rd t110.1 a3).fLow), iA ((rd t110.1 a3).fHigh), SlcA kStr ((rd t110.1 a3).fNames)]) R sh95 (qj _) R R (leB R) R) ?_
     rintro _ _ ⟨rfl, rfl⟩
     refine ak R <| qz <| qw (env' := [(9, _), (8, _)]) (.o2 R (.nil _)) <| qq <| vq ?_
     cases h
     exact QR.f2 R R (.cs (i := 0) R sh95 R R) (.t R) (.id _)
   ·refine qJ <| mv R R <| pk R 34 R (qB R R) <| mv R R ?_
    rcases bif_s h with ⟨hb117, h⟩ | ⟨hb117, h⟩
    ·refine sk R R R hb117 <| sk R R R hb117 <| pk R 36 R (vz R hb117) <| mv R R <| sk R R R R <| sk R R R R <| sk R R R R <| sk R R R R <| pk R 40 R (vz R R) <| qz ?_
     exact qw (.o4 R (.nil _)) (Kj114 () true h)
    ·refine wm R R R hb117 R R <| wq R R R hb117 (.s 37 R (.k .nil)) (qB R R).o <| p2 R 36 R 38 R (vw R hb117) <| mv R R ?_
     rcases bif_s h with ⟨hb118, h⟩ | ⟨hb118, h⟩
     ·refine sk R R R hb118 <| sk R R R hb118 <| sk R R R hb118 <| sk R R R hb118 <| pk R 40 R (vz R hb118) <| qz ?_
      exact qw (.o4 R (.nil _)) (Kj114 () true h)
     ·refine wm R R R hb118 R R <| wm R R R hb118 R R <| wq R R R hb118 (.s 42 R .nil) (vB R elS90).o <| wq R R R hb118 (.s 41 R (.s 43 R .nil)) (qB R R).o <| p2 R 40 R 44 R (vw R hb118) <| qz ?_
      exact qw (.o4 R (.nil _)) (Kj114 () (decide (a3 ≥ (t110.1.length : Int))) h)
 ·refine qJ <| mv R R <| pk R 12 R (qB R R) <| mv R R ?_
  rcases bif_s h with ⟨hb119, h⟩ | ⟨hb119, h⟩
  ·refine sk R R R hb119 <| sk R R R hb119 <| sk R R R hb119 <| sk R R R hb119 <| sk R R R hb119 <| sk R R R hb119 <| pk R 14 R (vz R hb119) <| qz ?_
   exact qw (.o4 R (.o2 R (.nil _))) (Kj103 () true h)
  ·refine wm R R R hb119 R R <| wf R R R hb119 R R fo42_0 R <| wf R R R hb119 R R fo38_0 R <| wl R R R hb119 R R sh26 <| wq R R R hb119 (.s 18 R .nil) (vB R elS26).o <| wq R R R hb119 (.s 15 R (.s 19 R .nil)) (qB R R).o <| p2 R 14 R 20 R (vw R hb119) <| qz ?_
   exact qw (.o4 R (.o2 R (.nil _))) (Kj103 () (decide (a2 ≥ (a1.fGraph.fNodes.length : Int))) h)
theorem ref21_bounded.con (k : Nat) (a0 : Int) (r : Bool) (h : ref21_bounded k a0 = some r) : Con Tryz.prog 62 [] [iA a0] (RA (bA r)) := by
 unfold ref21_bounded at h
 refine vZ (N := 9) Tryz.func62 R R R fun w0_ fg_ => sr <| ak R <| nt <| qX ?_
 refine W.jn1 (Γ := Unit) (fun (_ : Unit) (x2 : Bool) => [(2, bA x2)]) (fun (_ : Unit) (_ : Bool) => []) h (fun _ x2 h => ?_) (fun j102 Kj102 h => ?_)
 ·refine qq <| vq ?_
  cases h
  exact vW R R (.t R) (.id _)
 ·refine qJ <| mv R R <| pk R 3 R (qB R R) <| mv R R ?_
  rcases bif_s h with ⟨hb103, h⟩ | ⟨hb103, h⟩
  ·refine wm R R R hb103 R R <| wq R R R hb103 (.s 6 R (.k .nil)) (qB R R).o <| p2 R 5 R 7 R (vz R hb103) <| av R R <| qz ?_
   exact qw (.one R (.nil _)) (Kj102 () (decide (a0 ≤ 1000000)) h)
  ·refine sk R R R hb103 <| sk R R R hb103 <| pk R 5 R (vw R hb103) <| av R R <| qz ?_
   exact qw (.one R (.nil _)) (Kj102 () false h)
theorem ref03_within.con (k : Nat) (a0 : Int) (a1 : Term) (r : Int) (h : ref03_within k a0 a1 = some r) : Con Tryz.prog 155 [] [iA a0, AggA [iA a1.fVar, iA a1.fAdd]] (RA (iA r)) := by
 unfold ref03_within at h
 refine vZ (N := 24) Tryz.func155 R R R fun w0_ fg_ => sr <| p1 R 1 R (bx R (qj _)) <| ak R <| nt <| qX <| qX ?_
 refine W.jn1 (Γ := Unit) (fun (_ : Unit) (x23 : Bool) => [(23, bA x23)]) (fun (_ : Unit) (_ : Bool) => []) h (fun _ x23 h => ?_) (fun j104 Kj104 h => ?_)
 ·refine qq ?_
  refine qZ h R (fun hb105 h => ?_) (fun hb105 h => ?_)
  ·refine sr <| ak R <| nt <| vq <| qy ?_
   cases h
   exact vW R R (.t R) (.id _)
  ·refine qK <| qq <| sr <| ak R <| nt <| vq ?_
   cases h
   exact vW R R (.t R) (.id _)
 ·refine qJ <| fd R R fo23_0 R <| ld R R sh3 <| pk R 6 R (qB R R) <| mv R R ?_
  rcases bif_s h with ⟨hb106, h⟩ | ⟨hb106, h⟩
  ·refine sk R R R hb106 <| sk R R R hb106 <| sk R R R hb106 <| sk R R R hb106 <| pk R 8 R (vz R hb106) <| mv R R <| sk R R R R <| sk R R R R <| sk R R R R <| pk R 14 R (vz R R) <| mv R R <| sk R R R R <| sk R R R R ?_
   refine sk R R R R <| pk R 19 R (vz R R) <| qz ?_
   exact qw (.one R (.nil _)) (Kj104 () true h)
  ·refine wf R R R hb106 R R fo23_0 R <| wl R R R hb106 R R sh3 <| wm R R R hb106 R R <| wq R R R hb106 (.s 10 R (.s 11 R .nil)) (qB R R).o <| p2 R 8 R 12 R (vw R hb106) <| mv R R ?_
   rcases bif_s h with ⟨hb107, h⟩ | ⟨hb107, h⟩
   ·refine sk R R R hb107 <| sk R R R hb107 <| sk R R R hb107 <| pk R 14 R (vz R hb107) <| mv R R <| sk R R R R <| sk R R R R <| sk R R R R <| pk R 19 R (vz R R) <| qz ?_
    exact qw (.one R (.nil _)) (Kj104 () true h)
   ·refine wf R R R hb107 R R fo23_1 R <| wl R R R hb107 R R sh3 <| wq R R R hb107 (.s 16 R (.k .nil)) (qB R R).o <| p2 R 14 R 17 R (vw R hb107) <| mv R R ?_
    rcases bif_s h with ⟨hb108, h⟩ | ⟨hb108, h⟩
    ·refine sk R R R hb108 <| sk R R R hb108 <| sk R R R hb108 <| pk R 19 R (vz R hb108) <| qz ?_
     exact qw (.one R (.nil _)) (Kj104 () true h)
    ·refine wf R R R hb108 R R fo23_1 R <| wl R R R hb108 R R sh3 <| wq R R R hb108 (.s 21 R (.k .nil)) (qB R R).o <| p2 R 19 R 22 R (vw R hb108) <| qz ?_
     exact qw (.one R (.nil _)) (Kj104 () (decide (a1.fAdd > 1000000)) h)
theorem ref03_One.con (k : Nat) (a0 : Int) (a1 : Test) (r : Int) (h : ref03_One k a0 a1 = some r) : Con Tryz.prog 115 [] [iA a0, AggA [iA a1.fKind, iA a1.fLeft.fVar, iA a1.fLeft.fAdd, iA a1.fRight.fVar, iA a1.fRight.fAdd]] (RA (iA r)) := by
 unfold ref03_One at h
 refine vZ (N := 25) Tryz.func115 R R R fun w0_ fg_ => sr <| p1 R 1 R (bx R (qj _)) <| ak R <| nt <| qX <| qX ?_
 refine W.jn1 (Γ := Unit) (fun (_ : Unit) (x13 : Bool) => [(0, iA a0), (3, PtrA [iA a1.fKind, iA a1.fLeft.fVar, iA a1.fLeft.fAdd, iA a1.fRight.fVar, iA a1.fRight.fAdd]), (13, bA x13)]) (fun (_ : Unit) (_ : Bool) => []) h (fun _ x13 h => ?_) (fun j102 Kj102 h => ?_)
 ·refine qq ?_
  refine qZ h R (fun hb103 h => ?_) (fun hb103 h => ?_)
  ·refine sr <| ak R <| nt <| vq <| qy ?_
   cases h
   exact vW R R (.t R) (.id _)
  ·refine qK <| qq <| qX <| sr <| mv R R <| fd R R fo86_1 R <| lS R R sh23 R R ?_
   obtain ⟨t104, ht104, h⟩ := vx h
   refine p2 R 14 R 16 R (vQ (f := 155) (A := iA t104) (xs := [.tmp 14, .tmp 16]) («as» := [iA a0, AggA [iA a1.fLeft.fVar, iA a1.fLeft.fAdd]]) R ca155 (ref03_within.con k a0 a1.fLeft t104 ht104) R) <| av R R <| nx <| mv R R <| pk R 18 R (qB R R) <| nt ?_
   refine qZ h R (fun hb105 h => ?_) (fun hb105 h => ?_)
   ·refine sr <| mv R R <| av R R <| qz <| qw (env' := [(4, _)]) (.one R (.nil _)) <| qq <| vq <| qy ?_
    cases h
    exact vW R R (.t R) (.id _)
   ·refine qK <| qw (env' := [(3, _), (0, _)]) (.o2 R (.nil _)) <| qq <| sr <| mv R R <| fd R R fo86_2 R <| lS R R sh23 R R ?_
    obtain ⟨t106, ht106, h⟩ := vx h
    refine p2 R 21 R 23 R (vQ (f := 155) (A := iA t106) (xs := [.tmp 21, .tmp 23]) («as» := [iA a0, AggA [iA a1.fRight.fVar, iA a1.fRight.fAdd]]) R ca155 (ref03_within.con k a0 a1.fRight t106 ht106) R) <| av R R <| nt <| vq ?_
    cases h
    exact vW R R (.t R) (.id _)
 ·refine qJ <| fd R R fo86_0 R <| ld R R sh3 <| pk R 7 R (qB R R) <| mv R R ?_
  rcases bif_s h with ⟨hb107, h⟩ | ⟨hb107, h⟩
  ·refine wf R R R hb107 R R fo86_0 R <| wl R R R hb107 R R sh3 <| wq R R R hb107 (.s 11 R (.k .nil)) (qB R R).o <| p2 R 9 R 12 R (vz R hb107) <| qz ?_
   exact qw (.o2 R (.one R (.nil _))) (Kj102 () (a1.fKind != 2) h)
  ·refine sk R R R hb107 <| sk R R R hb107 <| sk R R R hb107 <| pk R 9 R (vw R hb107) <| qz ?_
   exact qw (.o2 R (.one R (.nil _))) (Kj102 () false h)
theorem ref03_Valid.con (k : Nat) (a0 : Int) (a1 : (List Test)) (r : Int) (h : ref03_Valid k a0 a1 = some r) : Con Tryz.prog 63 [] [iA a0, SlcA kTest a1] (RA (iA r)) := by
 unfold ref03_Valid at h
 refine vZ (N := 31) Tryz.func63 R R R fun w0_ fg_ => sr <| ak R <| nt <| qX <| qX ?_
 refine W.jn1 (Γ := Unit) (fun (_ : Unit) (x12 : Bool) => [(0, iA a0), (1, SlcA kTest a1), (12, bA x12)]) (fun (_ : Unit) (_ : Bool) => []) h (fun _ x12 h => ?_) (fun j102 Kj102 h => ?_)
 ·refine qq ?_
  refine qZ h R (fun hb103 h => ?_) (fun hb103 h => ?_)
  ·refine sr <| ak R <| nt <| vq <| qy ?_
   cases h
   exact vW R R (.t R) (.id _)
  ·refine qK <| qq <| qX <| sr <| mv R R <| p1 R 13 R (vB R elS40) <| pk R 14 R (qB R R) <| nt ?_
   refine qZ h R (fun hb104 h => ?_) (fun hb104 h => ?_)
   ·refine sr <| ak R <| nt <| vq <| qy ?_
    cases h
    exact vW R R (.t R) (.id _)
   ·refine qK <| qq <| qX <| sr <| ak R <| nt <| vy ?_
    refine W.loop1 (Γ := Unit) (fun (_ : Unit) (x5 : Int) => [(0, iA a0), (1, SlcA kTest a1), (5, iA x5)]) (fun (_ : Unit) (_ : Int) => []) h () (.o2 R (.one R (.nil _))) R (fun rec0 K0 next0 _ x5 h => ?_)
    unfold ref03_Valid.b0 at h
    refine qX <| sr <| mv R R <| mv R R <| p1 R 17 R (vB R elS40) <| p2 R 16 R 18 R (qB R R) <| nt ?_
    refine qZ h R (fun hb115 h => ?_) (fun hb115 h => ?_)
    ·refine qK <| qq <| qX <| vy <| sr <| mv R R <| mv R R <| mv R R ?_
     obtain ⟨c116, h⟩ := qV h
     refine p2 R 23 R 24 R (vX R el40 R c116.1 c116.2) <| lS R R sh86 R R ?_
     obtain ⟨t117, ht117, h⟩ := vx h
     refine p2 R 22 R 26 R (vQ (f := 115) (A := iA t117) (xs := [.tmp 22, .tmp 26]) («as» := [iA a0, AggA [iA ((rd a1 x5).fKind), iA ((rd a1 x5).fLeft.fVar), iA ((rd a1 x5).fLeft.fAdd), iA ((rd a1 x5).fRight.fVar), iA ((rd a1 x5).fRight.fAdd)]]) R ca115 (ref03_One.con k a0 (rd a1 x5) t117 ht117) R) <| av R R <| qz <| qw (env' := [(6, _), (5, _), (1, _), (0, _)]) (.o4 R (.nil _)) <| qq <| sr <| mv R R <| pk R 28 R (qB R R) <| nt ?_
     refine qZ h R (fun hb118 h => ?_) (fun hb118 h => ?_)
     ·refine sr <| mv R R <| av R R <| qz <| qw (env' := [(4, _)]) (.one R (.nil _)) <| qq <| vq <| vj <| qy <| qy <| vj <| qy ?_
      cases h
      exact vW R R (.t R) (.id _)
     ·refine qK <| vJ <| qq <| qJ <| mv R R ?_
      obtain ⟨c119, h⟩ := qV h
      refine pk R 20 R (vV R c119) <| av R R <| qz ?_
      exact next0 () (x5 + 1) _ h (.o2 R (.one R (.nil _)))
    ·refine bz <| qN <| qN <| bq <| qw (env' := []) (.nil _) <| qq <| sr <| ak R <| nt <| vq ?_
     cases h
     exact vW R R (.t R) (.id _)
 ·refine qJ <| mv R R <| pk R 7 R (qB R R) <| mv R R ?_
  rcases bif_s h with ⟨hb120, h⟩ | ⟨hb120, h⟩
  ·refine sk R R R hb120 <| sk R R R hb120 <| pk R 9 R (vz R hb120) <| qz ?_
   exact qw (.o2 R (.one R (.nil _))) (Kj102 () true h)
  ·refine wm R R R hb120 R R <| wq R R R hb120 (.s 10 R (.k .nil)) (qB R R).o <| p2 R 9 R 11 R (vw R hb120) <| qz ?_
   exact qw (.o2 R (.one R (.nil _))) (Kj102 () (decide (a0 > 12)) h)
theorem ref21_occurs.con (k : Nat) (a0 : Pattern) (a1 : Int) (r : Bool) (h : ref21_occurs k a0 a1 = some r) : Con Tryz.prog 64 [] [AggA [SlcA kInt a0.fGraph.fNodes, SlcA kEdge a0.fGraph.fEdges, SlcA kSlot a0.fSlots, iA a0.fVars, SlcA kTest a0.fTests], iA a1] (RA (bA r)) := by
 unfold ref21_occurs at h
 refine vZ (N := 22) Tryz.func64 R R R fun w0_ fg_ => sr <| p1 R 0 R (bx R (qj _)) <| ak R <| nt <| qX <| sr <| ak R <| nt ?_
 refine vy ?_
 refine W.loop1 (Γ := Unit) (fun (_ : Unit) (x5 : Int) => [(1, iA a1), (2, PtrA [SlcA kInt a0.fGraph.fNodes, SlcA kEdge a0.fGraph.fEdges, SlcA kSlot a0.fSlots, iA a0.fVars, SlcA kTest a0.fTests]), (5, iA x5)]) (fun (_ : Unit) (_ : Int) => []) h () (.o2 R (.one R (.nil _))) R (fun rec0 K0 next0 _ x5 h => ?_)
 unfold ref21_occurs.b0 at h
 refine qX <| sr <| mv R R <| fd R R fo42_1 R <| ld R R sh39 <| p1 R 8 R (vB R elS39) <| p2 R 6 R 9 R (qB R R) <| nt ?_
 refine qZ h R (fun hb108 h => ?_) (fun hb108 h => ?_)
 ·refine qK <| qq <| qX <| vy <| sr <| fd R R fo42_1 R <| ld R R sh39 <| mv R R ?_
  obtain ⟨c109, h⟩ := qV h
  refine p2 R 14 R 15 R (vX R el39 R c109.1 c109.2) <| fd R R fo113_2 R <| fd R R fo23_0 R <| ld R R sh3 <| mv R R <| p2 R 19 R 20 R (qB R R) <| qz <| qw (env' := [(21, _), (5, _), (2, _), (1, _)]) (.o4 R (.nil _)) <| qq ?_
  refine qZ h R (fun hb110 h => ?_) (fun hb110 h => ?_)
  ·refine sr <| ak R <| nt <| vq <| vj <| qy <| qy <| vj <| qy ?_
   cases h
   exact vW R R (.t R) (.id _)
  ·refine qK <| vJ <| qq <| qJ <| mv R R ?_
   obtain ⟨c111, h⟩ := qV h
   refine pk R 11 R (vV R c111) <| av R R <| qz ?_
   exact next0 () (x5 + 1) _ h (.o2 R (.one R (.nil _)))
 ·refine bz <| qN <| qN <| bq <| qw (env' := []) (.nil _) <| qq <| sr <| ak R <| nt <| vq ?_
  cases h
  exact vW R R (.t R) (.id _)
theorem ref21_Valid.con (k : Nat) (a0 : Types) (a1 : Pattern) (r : Int) (h : ref21_Valid k a0 a1 = some r) : Con Tryz.prog 19 [] [AggA [SlcA kNodeType a0.fNodes, SlcA kEdgeType a0.fEdges], AggA [SlcA kInt a1.fGraph.fNodes, SlcA kEdge a1.fGraph.fEdges, SlcA kSlot a1.fSlots, iA a1.fVars, SlcA kTest a1.fTests]] (RA (iA r)) := by
 unfold ref21_Valid at h
 refine vZ (N := 114) Tryz.func19 R R R fun w0_ fg_ => sr <| p1 R 0 R (bx R (qj _)) <| p1 R 1 R (bx R (qj _)) <| ak R <| nt <| qX <| sr <| lS R R sh35 R R ?_
 obtain ⟨t100, ht100, h⟩ := vx h
 refine p1 R 15 R (vQ (f := 58) (A := TupA [EqA (strV t100.1), iA t100.2]) (xs := [.tmp 15]) («as» := [AggA [SlcA kNodeType a0.fNodes, SlcA kEdgeType a0.fEdges]]) R ca58 (ref04_Valid.con k a0 t100 ht100) R) <| mv R R <| p1 R 14 R (vK R R) <| p1 R 14 R (vK R R) <| av R R <| av R R <| qz <| qw (env' := [(6, _), (3, _), (2, _)]) (.o2 R (.one R (.nil _))) <| qq <| sr <| mv R R <| pk R 19 R (qB R R) ?_
 refine nt ?_
 refine qZ h R (fun hb101 h => ?_) (fun hb101 h => ?_)
 ·refine sr <| mv R R <| av R R <| nt <| vq <| qy ?_
  cases h
  exact vW R R (.t R) (.id _)
 ·refine qK <| qq <| qX <| sr <| fd R R fo42_0 R <| lS R R sh38 R R ?_
  obtain ⟨t102, ht102, h⟩ := vx h
  refine p1 R 23 R (vQ (f := 59) (A := iA t102) (xs := [.tmp 23]) («as» := [AggA [SlcA kInt a1.fGraph.fNodes, SlcA kEdge a1.fGraph.fEdges]]) R ca59 (ref05_Valid.con k a1.fGraph t102 ht102) R) <| av R R <| nx <| mv R R <| pk R 25 R (qB R R) <| qz <| qw (env' := [(26, _), (7, _), (3, _), (2, _)]) (.o4 R (.nil _)) <| qq ?_
  refine qZ h R (fun hb103 h => ?_) (fun hb103 h => ?_)
  ·refine sr <| mv R R <| av R R <| nt <| vq <| qy ?_
   cases h
   exact vW R R (.t R) (.id _)
  ·refine qK <| qq <| qX <| sr <| lS R R sh35 R R <| fd R R fo42_0 R <| lS R R sh38 R R ?_
   obtain ⟨t104, ht104, h⟩ := vx h
   refine p2 R 28 R 30 R (vQ (f := 60) (A := bA t104) (xs := [.tmp 28, .tmp 30]) («as» := [AggA [SlcA kNodeType a0.fNodes, SlcA kEdgeType a0.fEdges], AggA [SlcA kInt a1.fGraph.fNodes, SlcA kEdge a1.fGraph.fEdges]]) R ca60 (ref17_Typed.con k a0 a1.fGraph t104 ht104) R) <| p1 R 31 R (q_not R) <| nt ?_
   refine qZ h R (fun hb105 h => ?_) (fun hb105 h => ?_)
   ·refine sr <| ak R <| qz <| qw (env' := [(4, _)]) (.one R (.nil _)) <| qq <| vq <| qy ?_
    cases h
    exact vW R R (.t R) (.id _)
   ·refine qK <| qw (env' := [(3, _), (2, _)]) (.o2 R (.nil _)) <| qq <| qX <| qX ?_
    refine W.jn1 (Γ := Unit) (fun (_ : Unit) (x40 : Bool) => [(2, PtrA [SlcA kNodeType a0.fNodes, SlcA kEdgeType a0.fEdges]), (3, PtrA [SlcA kInt a1.fGraph.fNodes, SlcA kEdge a1.fGraph.fEdges, SlcA kSlot a1.fSlots, iA a1.fVars, SlcA kTest a1.fTests]), (40, bA x40)]) (fun (_ : Unit) (_ : Bool) => []) h (fun _ x40 h => ?_) (fun j108 Kj108 h => ?_)
    ·refine qq ?_
     refine qZ h R (fun hb109 h => ?_) (fun hb109 h => ?_)
     ·refine sr <| ak R <| nt <| vq <| qy ?_
      cases h
      exact vW R R (.t R) (.id _)
     ·refine qK <| qq <| qX <| qX ?_
      refine W.jn1 (Γ := Unit) (fun (_ : Unit) (x50 : Bool) => [(2, PtrA [SlcA kNodeType a0.fNodes, SlcA kEdgeType a0.fEdges]), (3, PtrA [SlcA kInt a1.fGraph.fNodes, SlcA kEdge a1.fGraph.fEdges, SlcA kSlot a1.fSlots, iA a1.fVars, SlcA kTest a1.fTests]), (50, bA x50)]) (fun (_ : Unit) (_ : Bool) => []) h (fun _ x50 h => ?_) (fun j112 Kj112 h => ?_)
      ·refine qq ?_
       refine qZ h R (fun hb113 h => ?_) (fun hb113 h => ?_)
       ·refine sr <| ak R <| nt <| vq <| qy ?_
        cases h
        exact vW R R (.t R) (.id _)
       ·refine qK <| qq <| qX <| sr <| ak R <| nt <| vy ?_
        refine W.loop1 (Γ := Unit) (fun (_ : Unit) (x8 : Int) => [(2, PtrA [SlcA kNodeType a0.fNodes, SlcA kEdgeType a0.fEdges]), (3, PtrA [SlcA kInt a1.fGraph.fNodes, SlcA kEdge a1.fGraph.fEdges, SlcA kSlot a1.fSlots, iA a1.fVars, SlcA kTest a1.fTests]), (8, iA x8)]) (fun (_ : Unit) (_ : Int) => []) h () (.o2 R (.one R (.nil _))) R (fun rec0 K0 next0 _ x8 h => ?_)
        unfold ref21_Valid.b0 at h
        refine qX <| sr <| mv R R <| fd R R fo42_1 R <| ld R R sh39 <| p1 R 53 R (vB R elS39) <| p2 R 51 R 54 R (qB R R) <| nt ?_
        refine qZ h R (fun hb176 h => ?_) (fun hb176 h => ?_)
        ·refine qK <| qq <| qX <| vy <| sr <| fd R R fo42_1 R <| ld R R sh39 <| mv R R ?_
         obtain ⟨c177, h⟩ := qV h
         refine p2 R 59 R 60 R (vX R el39 R c177.1 c177.2) <| lS R R sh113 R R <| WL.w [] R (qQ R) R R .nil (w_alloc R z113 (l := [iA 0, iA 0, iA 0, iA 0]) R) ?_
         rintro _ _ ⟨b178, rfl, rfl⟩
         refine WL.w0 [0] R (qQ R) R (.s 9 R (.s 62 R .nil)) (w_store (L := [iA ((rd a1.fSlots x8).fNode), iA ((rd a1.fSlots x8).fAttr), iA ((rd a1.fSlots x8).fTerm.fVar), iA ((rd a1.fSlots x8).fTerm.fAdd)]) R sh113 (qj _) R R (leB R) R) ?_
         rintro _ _ ⟨rfl, rfl⟩
         refine qz <| QN.to (StTo.still [0] 9 R R) <| qw (env' := [(9, _), (8, _), (3, _), (2, _)]) (.o4 R (.nil _)) <| qq <| sr <| lS R R sh35 R R <| lS R R sh42 R R <| fd R R fo113_0 R <| ld R R sh3 <| fd R R fo113_1 R <| ld R R sh3 ?_
         obtain ⟨t179, ht179, h⟩ := vx h
         refine WL.p R R R (.s 64 R (.s 65 R (.s 67 R (.s 69 R .nil)))) (vQ (f := 61) (A := TupA [AggA [EqA (strV t179.1.fName), iA t179.1.fLow, iA t179.1.fHigh, SlcA kStr t179.1.fNames], bA t179.2]) (xs := [.tmp 64, .tmp 65, .tmp 67, .tmp 69]) («as» := [AggA [SlcA kNodeType a0.fNodes, SlcA kEdgeType a0.fEdges], AggA [SlcA kInt a1.fGraph.fNodes, SlcA kEdge a1.fGraph.fEdges, SlcA kSlot a1.fSlots, iA a1.fVars, SlcA kTest a1.fTests], iA ((rd a1.fSlots x8).fNode), iA ((rd a1.fSlots x8).fAttr)]) R ca61 (ref21_attr.con k a0 a1 ((rd a1.fSlots x8).fNode) ((rd a1.fSlots x8).fAttr) t179 ht179) R) <| mv R R <| p1 R 63 R (vK R R) <| p1 R 63 R (vK R R) <| WL.w [] R (qQ R) R R .nil (w_alloc R z95 (l := [EqA (strV ([] : Str)), iA 0, iA 0, EqA (.slice none 0 0)]) R) ?_
         rintro _ _ ⟨b180, rfl, rfl⟩
         refine WL.w0 [0] R (qQ R) R (.s 10 R (.s 71 R .nil)) (w_store (L := [EqA (strV t179.1.fName), iA t179.1.fLow, iA t179.1.fHigh, SlcA kStr t179.1.fNames]) R sh95 (qj _) R R (leB R) R) ?_
         rintro _ _ ⟨rfl, rfl⟩
         refine av R R <| qz <| QN.to (StTo.still [0] 10 R R) <| qw (env' := [(11, _), (9, _), (8, _), (3, _), (2, _)]) (.o4 R (.one R (.nil _))) <| qq <| qX ?_
         refine W.jn1 (Γ := Unit) (fun (_ : Unit) (x95 : Bool) => [(2, PtrA [SlcA kNodeType a0.fNodes, SlcA kEdgeType a0.fEdges]), (3, PtrA [SlcA kInt a1.fGraph.fNodes, SlcA kEdge a1.fGraph.fEdges, SlcA kSlot a1.fSlots, iA a1.fVars, SlcA kTest a1.fTests]), (8, iA x8), (95, bA x95)]) (fun (_ : Unit) (_ : Bool) => []) h (fun _ x95 h => ?_) (fun j186 Kj186 h => ?_)
         ·refine qq ?_
          refine qZ h R (fun hb187 h => ?_) (fun hb187 h => ?_)
          ·refine sr <| ak R <| nt <| vq <| vj <| qy <| qy <| vj <| qy ?_
           cases h
           exact vW R R (.t R) (.id _)
          ·refine qK <| vJ <| qq <| qJ <| mv R R ?_
           obtain ⟨c188, h⟩ := qV h
           refine pk R 56 R (vV R c188) <| av R R <| qz ?_
           exact next0 () (x8 + 1) _ h (.o2 R (.one R (.nil _)))
         ·refine qJ <| mv R R <| p1 R 73 R (q_not R) <| mv R R ?_
          rcases bif_s h with ⟨hb189, h⟩ | ⟨hb189, h⟩
          ·refine sk R R R hb189 <| sk R R R hb189 <| sk R R R hb189 <| sk R R R hb189 <| pk R 75 R (vz R hb189) <| mv R R <| sk R R R R <| sk R R R R <| sk R R R R <| sk R R R R <| sk R R R R <| sk R R R R <| pk R 81 R (vz R R) ?_
           refine mv R R <| sk R R R R <| sk R R R R <| sk R R R R <| sk R R R R <| sk R R R R <| pk R 89 R (vz R R) <| qz ?_
           exact qw (.o4 R (.nil _)) (Kj186 () true h)
          ·refine wf R R R hb189 R R fo113_2 R <| wf R R R hb189 R R fo23_0 R <| wl R R R hb189 R R sh3 <| wq R R R hb189 (.s 78 R (.k .nil)) (qB R R).o <| p2 R 75 R 79 R (vw R hb189) <| mv R R ?_
           rcases bif_s h with ⟨hb190, h⟩ | ⟨hb190, h⟩
           ·refine sk R R R hb190 <| sk R R R hb190 <| sk R R R hb190 <| sk R R R hb190 <| sk R R R hb190 <| sk R R R hb190 <| pk R 81 R (vz R hb190) <| mv R R <| sk R R R R <| sk R R R R <| sk R R R R <| sk R R R R <| sk R R R R ?_
            refine pk R 89 R (vz R R) <| qz ?_
            exact qw (.o4 R (.nil _)) (Kj186 () true h)
           ·refine wf R R R hb190 R R fo113_2 R <| wf R R R hb190 R R fo23_0 R <| wl R R R hb190 R R sh3 <| wf R R R hb190 R R fo42_2 R <| wl R R R hb190 R R sh3 <| wq R R R hb190 (.s 84 R (.s 86 R .nil)) (qB R R).o <| p2 R 81 R 87 R (vw R hb190) <| mv R R ?_
            rcases bif_s h with ⟨hb191, h⟩ | ⟨hb191, h⟩
            ·refine sk R R R hb191 <| sk R R R hb191 <| sk R R R hb191 <| sk R R R hb191 <| sk R R R hb191 <| pk R 89 R (vz R hb191) <| qz ?_
             exact qw (.o4 R (.nil _)) (Kj186 () true h)
            ·refine wf R R R hb191 R R fo113_2 R <| wf R R R hb191 R R fo23_1 R <| wl R R R hb191 R R sh3 ?_
             obtain ⟨t192, ht192, h⟩ := vx h
             refine wq R R R hb191 (.s 92 R .nil) (vQ (f := 62) (A := bA t192) (xs := [.tmp 92]) («as» := [iA ((rd a1.fSlots x8).fTerm.fAdd)]) R ca62 (ref21_bounded.con k ((rd a1.fSlots x8).fTerm.fAdd) t192 ht192) R).o <| wq R R R hb191 (.s 93 R .nil) (q_not R).o <| p2 R 89 R 94 R (vw R hb191) <| qz ?_
             exact qw (.o4 R (.nil _)) (Kj186 () (!t192) h)
        ·refine bz <| qN <| qN <| bq <| qw (env' := [(3, _)]) (.one R (.nil _)) <| qq <| qX <| sr <| fd R R fo42_2 R <| ld R R sh3 <| fd R R fo42_3 R <| ld R R sh40 ?_
         obtain ⟨t193, ht193, h⟩ := vx h
         refine p2 R 97 R 99 R (vQ (f := 63) (A := iA t193) (xs := [.tmp 97, .tmp 99]) («as» := [iA a1.fVars, SlcA kTest a1.fTests]) R ca63 (ref03_Valid.con k a1.fVars a1.fTests t193 ht193) R) <| av R R <| nx <| mv R R <| pk R 101 R (qB R R) <| nt ?_
         refine qZ h R (fun hb194 h => ?_) (fun hb194 h => ?_)
         ·refine sr <| mv R R <| av R R <| qz <| qw (env' := [(4, _)]) (.one R (.nil _)) <| qq <| vq <| qy ?_
          cases h
          exact vW R R (.t R) (.id _)
         ·refine qK <| qw (env' := [(3, _)]) (.one R (.nil _)) <| qq <| qX <| sr <| ak R <| nt <| vy ?_
          refine W.loop1 (Γ := Unit) (fun (_ : Unit) (x13 : Int) => [(3, PtrA [SlcA kInt a1.fGraph.fNodes, SlcA kEdge a1.fGraph.fEdges, SlcA kSlot a1.fSlots, iA a1.fVars, SlcA kTest a1.fTests]), (13, iA x13)]) (fun (_ : Unit) (_ : Int) => []) h () (.o2 R (.nil _)) R (fun rec1 K1 next1 _ x13 h => ?_)
          unfold ref21_Valid.b1 at h
          refine qX <| sr <| mv R R <| fd R R fo42_2 R <| ld R R sh3 <| p2 R 104 R 106 R (qB R R) <| nt ?_
          refine qZ h R (fun hb203 h => ?_) (fun hb203 h => ?_)
          ·refine qK <| qq <| qX <| vy <| sr <| lS R R sh42 R R <| mv R R ?_
           obtain ⟨t204, ht204, h⟩ := vx h
           refine p2 R 110 R 111 R (vQ (f := 64) (A := bA t204) (xs := [.tmp 110, .tmp 111]) («as» := [AggA [SlcA kInt a1.fGraph.fNodes, SlcA kEdge a1.fGraph.fEdges, SlcA kSlot a1.fSlots, iA a1.fVars, SlcA kTest a1.fTests], iA x13]) R ca64 (ref21_occurs.con k a1 x13 t204 ht204) R) <| p1 R 112 R (q_not R) <| qz <| qw (env' := [(113, _), (13, _), (3, _)]) (.o2 R (.one R (.nil _))) <| qq ?_
           refine qZ h R (fun hb205 h => ?_) (fun hb205 h => ?_)
           ·refine sr <| ak R <| nt <| vq <| vj <| qy <| qy <| vj <| qy ?_
            cases h
            exact vW R R (.t R) (.id _)
           ·refine qK <| vJ <| qq <| qJ <| mv R R ?_
            obtain ⟨c206, h⟩ := qV h
            refine pk R 108 R (vV R c206) <| av R R <| qz ?_
            exact next1 () (x13 + 1) _ h (.o2 R (.nil _))
          ·refine bz <| qN <| qN <| bq <| qq <| sr <| ak R <| nt <| vq ?_
           cases h
           exact vW R R (.t R) (.id _)
      ·refine qJ <| fd R R fo42_1 R <| ld R R sh39 <| p1 R 42 R (vB R elS39) <| pk R 43 R (qB R R) <| mv R R ?_
       rcases bif_s h with ⟨hb207, h⟩ | ⟨hb207, h⟩
       ·refine sk R R R hb207 <| sk R R R hb207 <| sk R R R hb207 <| sk R R R hb207 <| pk R 45 R (vz R hb207) <| qz ?_
        exact qw (.o2 R (.one R (.nil _))) (Kj112 () true h)
       ·refine wf R R R hb207 R R fo42_3 R <| wl R R R hb207 R R sh40 <| wq R R R hb207 (.s 47 R .nil) (vB R elS40).o <| wq R R R hb207 (.s 48 R (.k .nil)) (qB R R).o <| p2 R 45 R 49 R (vw R hb207) <| qz ?_
        exact qw (.o2 R (.one R (.nil _))) (Kj112 () (decide ((a1.fTests.length : Int) > 10)) h)
    ·refine qJ <| fd R R fo42_2 R <| ld R R sh3 <| pk R 34 R (qB R R) <| mv R R ?_
     rcases bif_s h with ⟨hb208, h⟩ | ⟨hb208, h⟩
     ·refine sk R R R hb208 <| sk R R R hb208 <| sk R R R hb208 <| pk R 36 R (vz R hb208) <| qz ?_
      exact qw (.o2 R (.one R (.nil _))) (Kj108 () true h)
     ·refine wf R R R hb208 R R fo42_2 R <| wl R R R hb208 R R sh3 <| wq R R R hb208 (.s 38 R (.k .nil)) (qB R R).o <| p2 R 36 R 39 R (vw R hb208) <| qz ?_
      exact qw (.o2 R (.one R (.nil _))) (Kj108 () (decide (a1.fVars > 12)) h)
end Go.Proofs.YtcgdfjpeboiioaaGreat
