import Derived.Test.YtcgdfjpeboiioaaGreatGdC9
namespace Go.Proofs.YtcgdfjpeboiioaaGreat
open Go Go.Abs
attribute [local irreducible] Tryz.prog
theorem ref21_occurs.con (k : Nat) (a0 : Pattern) (a1 : Int) (r : Bool) (h : ref21_occurs k a0 a1 = some r) : Con Tryz.prog 64 [] [AggA [SlcA kInt a0.fGraph.fNodes, SlcA kEdge a0.fGraph.fEdges, SlcA kSlot a0.fSlots, iA a0.fVars, SlcA kTest a0.fTests], iA a1] (RA (bA r)) := by
 unfold ref21_occurs at h
 refine vZ (N := 22) Tryz.func64 R R R fun w0_ fg_ => sr <| p1 R 0 R (q_box R (qz _)) <| ak R <| nt <| qX <| sr <| ak R <| nt ?_
 refine vj ?_
 refine W.loop1 (Γ := Unit) (fun (_ : Unit) (x5 : Int) => [(1, iA a1), (2, PtrA [SlcA kInt a0.fGraph.fNodes, SlcA kEdge a0.fGraph.fEdges, SlcA kSlot a0.fSlots, iA a0.fVars, SlcA kTest a0.fTests]), (5, iA x5)]) (fun (_ : Unit) (_ : Int) => []) h () (.o2 R (.one R (.nil _))) R (fun rec0 K0 next0 _ x5 h => ?_)
 unfold ref21_occurs.b0 at h
 refine qX <| sr <| mv R R <| fd R R fo42_1 R <| ld R R sh39 <| p1 R 8 R (vN R elS39) <| p2 R 6 R 9 R (qB R R) <| nt ?_
 refine qZ h R (fun hb108 h => ?_) (fun hb108 h => ?_)
 ·refine qK <| qq <| qX <| vj <| sr <| fd R R fo42_1 R <| ld R R sh39 <| mv R R ?_
  obtain ⟨c109, h⟩ := qV h
  refine p2 R 14 R 15 R (vX R el39 R c109.1 c109.2) <| fd R R fo113_2 R <| fd R R fo23_0 R <| ld R R sh3 <| mv R R <| p2 R 19 R 20 R (qB R R) <| qx <| qw (env' := [(21, _), (5, _), (2, _), (1, _)]) (.o4 R (.nil _)) <| qq ?_
  refine qZ h R (fun hb110 h => ?_) (fun hb110 h => ?_)
  ·refine sr <| ak R <| nt <| qN <| vx <| qy <| qy <| vx <| qy ?_
   cases h
   exact vW R R (.t R) (.id _)
  ·refine qK <| vJ <| qq <| qJ <| mv R R ?_
   obtain ⟨c111, h⟩ := qV h
   refine pk R 11 R (vV R c111) <| av R R <| qx ?_
   exact next0 () (x5 + 1) _ h (.o2 R (.one R (.nil _)))
 ·refine W.exit <| vq <| vq <| vB <| qw (env' := []) (.nil _) <| qq <| sr <| ak R <| nt <| qN ?_
  cases h
  exact vW R R (.t R) (.id _)
theorem ref21_Valid.con (k : Nat) (a0 : Types) (a1 : Pattern) (r : Int) (h : ref21_Valid k a0 a1 = some r) : Con Tryz.prog 19 [] [AggA [SlcA kNodeType a0.fNodes, SlcA kEdgeType a0.fEdges], AggA [SlcA kInt a1.fGraph.fNodes, SlcA kEdge a1.fGraph.fEdges, SlcA kSlot a1.fSlots, iA a1.fVars, SlcA kTest a1.fTests]] (RA (iA r)) := by
 unfold ref21_Valid at h
 refine vZ (N := 114) Tryz.func19 R R R fun w0_ fg_ => sr <| p1 R 0 R (q_box R (qz _)) <| p1 R 1 R (q_box R (qz _)) <| ak R <| nt <| qX <| sr <| lS R R sh35 R R ?_
 obtain ⟨t100, ht100, h⟩ := vw h
 refine p1 R 15 R (vQ (f := 58) (A := TupA [EqA (strV t100.1), iA t100.2]) (xs := [.tmp 15]) («as» := [AggA [SlcA kNodeType a0.fNodes, SlcA kEdgeType a0.fEdges]]) R ca58 (ref04_Valid.con k a0 t100 ht100) R) <| mv R R <| p1 R 14 R (vK R R) <| p1 R 14 R (vK R R) <| av R R <| av R R <| qx <| qw (env' := [(6, _), (3, _), (2, _)]) (.o2 R (.one R (.nil _))) <| qq <| sr <| mv R R <| pk R 19 R (qB R R) ?_
 refine nt ?_
 refine qZ h R (fun hb101 h => ?_) (fun hb101 h => ?_)
 ·refine sr <| mv R R <| av R R <| nt <| qN <| qy ?_
  cases h
  exact vW R R (.t R) (.id _)
 ·refine qK <| qq <| qX <| sr <| fd R R fo42_0 R <| lS R R sh38 R R ?_
  obtain ⟨t102, ht102, h⟩ := vw h
  refine p1 R 23 R (vQ (f := 59) (A := iA t102) (xs := [.tmp 23]) («as» := [AggA [SlcA kInt a1.fGraph.fNodes, SlcA kEdge a1.fGraph.fEdges]]) R ca59 (ref05_Valid.con k a1.fGraph t102 ht102) R) <| av R R <| nx <| mv R R <| pk R 25 R (qB R R) <| qx <| qw (env' := [(26, _), (7, _), (3, _), (2, _)]) (.o4 R (.nil _)) <| qq ?_
  refine qZ h R (fun hb103 h => ?_) (fun hb103 h => ?_)
  ·refine sr <| mv R R <| av R R <| nt <| qN <| qy ?_
   cases h
   exact vW R R (.t R) (.id _)
  ·refine qK <| qq <| qX <| sr <| lS R R sh35 R R <| fd R R fo42_0 R <| lS R R sh38 R R ?_
   obtain ⟨t104, ht104, h⟩ := vw h
   refine p2 R 28 R 30 R (vQ (f := 60) (A := bA t104) (xs := [.tmp 28, .tmp 30]) («as» := [AggA [SlcA kNodeType a0.fNodes, SlcA kEdgeType a0.fEdges], AggA [SlcA kInt a1.fGraph.fNodes, SlcA kEdge a1.fGraph.fEdges]]) R ca60 (ref17_Typed.con k a0 a1.fGraph t104 ht104) R) <| p1 R 31 R (q_not R) <| nt ?_
   refine qZ h R (fun hb105 h => ?_) (fun hb105 h => ?_)
   ·refine sr <| ak R <| qx <| qw (env' := [(4, _)]) (.one R (.nil _)) <| qq <| qN <| qy ?_
    cases h
    exact vW R R (.t R) (.id _)
   ·refine qK <| qw (env' := [(3, _), (2, _)]) (.o2 R (.nil _)) <| qq <| qX <| qX ?_
    refine W.jn1 (Γ := Unit) (fun (_ : Unit) (x40 : Bool) => [(2, PtrA [SlcA kNodeType a0.fNodes, SlcA kEdgeType a0.fEdges]), (3, PtrA [SlcA kInt a1.fGraph.fNodes, SlcA kEdge a1.fGraph.fEdges, SlcA kSlot a1.fSlots, iA a1.fVars, SlcA kTest a1.fTests]), (40, bA x40)]) (fun (_ : Unit) (_ : Bool) => []) h (fun _ x40 h => ?_) (fun j108 Kj108 h => ?_)
    ·refine qq ?_
     refine qZ h R (fun hb109 h => ?_) (fun hb109 h => ?_)
     ·refine sr <| ak R <| nt <| qN <| qy ?_
      cases h
      exact vW R R (.t R) (.id _)
     ·refine qK <| qq <| qX <| qX ?_
      refine W.jn1 (Γ := Unit) (fun (_ : Unit) (x50 : Bool) => [(2, PtrA [SlcA kNodeType a0.fNodes, SlcA kEdgeType a0.fEdges]), (3, PtrA [SlcA kInt a1.fGraph.fNodes, SlcA kEdge a1.fGraph.fEdges, SlcA kSlot a1.fSlots, iA a1.fVars, SlcA kTest a1.fTests]), (50, bA x50)]) (fun (_ : Unit) (_ : Bool) => []) h (fun _ x50 h => ?_) (fun j112 Kj112 h => ?_)
      ·refine qq ?_
       refine qZ h R (fun hb113 h => ?_) (fun hb113 h => ?_)
       ·refine sr <| ak R <| nt <| qN <| qy ?_
        cases h
        exact vW R R (.t R) (.id _)
       ·refine qK <| qq <| qX <| sr <| ak R <| nt <| vj ?_
        refine W.loop1 (Γ := Unit) (fun (_ : Unit) (x8 : Int) => [(2, PtrA [SlcA kNodeType a0.fNodes, SlcA kEdgeType a0.fEdges]), (3, PtrA [SlcA kInt a1.fGraph.fNodes, SlcA kEdge a1.fGraph.fEdges, SlcA kSlot a1.fSlots, iA a1.fVars, SlcA kTest a1.fTests]), (8, iA x8)]) (fun (_ : Unit) (_ : Int) => []) h () (.o2 R (.one R (.nil _))) R (fun rec0 K0 next0 _ x8 h => ?_)
        unfold ref21_Valid.b0 at h
        refine qX <| sr <| mv R R <| fd R R fo42_1 R <| ld R R sh39 <| p1 R 53 R (vN R elS39) <| p2 R 51 R 54 R (qB R R) <| nt ?_
        refine qZ h R (fun hb176 h => ?_) (fun hb176 h => ?_)
        ·refine qK <| qq <| qX <| vj <| sr <| fd R R fo42_1 R <| ld R R sh39 <| mv R R ?_
         obtain ⟨c177, h⟩ := qV h
         refine p2 R 59 R 60 R (vX R el39 R c177.1 c177.2) <| lS R R sh113 R R <| WL.w [] R (qj R) R R .nil (w_alloc R z113 (l := [iA 0, iA 0, iA 0, iA 0]) R) ?_
         rintro _ _ ⟨b178, rfl, rfl⟩
         refine WL.w0 [0] R (qj R) R (.s 9 R (.s 62 R .nil)) (w_store (L := [iA ((rd a1.fSlots x8).fNode), iA ((rd a1.fSlots x8).fAttr), iA ((rd a1.fSlots x8).fTerm.fVar), iA ((rd a1.fSlots x8).fTerm.fAdd)]) R sh113 (qz _) R R (leB R) R) ?_
         rintro _ _ ⟨rfl, rfl⟩
         refine qx <| QN.to (StTo.still [0] 9 R R) <| qw (env' := [(9, _), (8, _), (3, _), (2, _)]) (.o4 R (.nil _)) <| qq <| sr <| lS R R sh35 R R <| lS R R sh42 R R <| fd R R fo113_0 R <| ld R R sh3 <| fd R R fo113_1 R <| ld R R sh3 ?_
         obtain ⟨t179, ht179, h⟩ := vw h
         refine WL.p R R R (.s 64 R (.s 65 R (.s 67 R (.s 69 R .nil)))) (vQ (f := 61) (A := TupA [AggA [EqA (strV t179.1.fName), iA t179.1.fLow, iA t179.1.fHigh, SlcA kStr t179.1.fNames], bA t179.2]) (xs := [.tmp 64, .tmp 65, .tmp 67, .tmp 69]) («as» := [AggA [SlcA kNodeType a0.fNodes, SlcA kEdgeType a0.fEdges], AggA [SlcA kInt a1.fGraph.fNodes, SlcA kEdge a1.fGraph.fEdges, SlcA kSlot a1.fSlots, iA a1.fVars, SlcA kTest a1.fTests], iA ((rd a1.fSlots x8).fNode), iA ((rd a1.fSlots x8).fAttr)]) R ca61 (ref21_attr.con k a0 a1 ((rd a1.fSlots x8).fNode) ((rd a1.fSlots x8).fAttr) t179 ht179) R) <| mv R R <| p1 R 63 R (vK R R) <| p1 R 63 R (vK R R) <| WL.w [] R (qj R) R R .nil (w_alloc R z95 (l := [EqA (strV ([] : Str)), iA 0, iA 0, EqA (.slice none 0 0)]) R) ?_
         rintro _ _ ⟨b180, rfl, rfl⟩
         refine WL.w0 [0] R (qj R) R (.s 10 R (.s 71 R .nil)) (w_store (L := [EqA (strV t179.1.fName), iA t179.1.fLow, iA t179.1.fHigh, SlcA kStr t179.1.fNames]) R sh95 (qz _) R R (leB R) R) ?_
         rintro _ _ ⟨rfl, rfl⟩
         refine av R R <| qx <| QN.to (StTo.still [0] 10 R R) <| qw (env' := [(11, _), (9, _), (8, _), (3, _), (2, _)]) (.o4 R (.one R (.nil _))) <| qq <| qX ?_
         refine W.jn1 (Γ := Unit) (fun (_ : Unit) (x95 : Bool) => [(2, PtrA [SlcA kNodeType a0.fNodes, SlcA kEdgeType a0.fEdges]), (3, PtrA [SlcA kInt a1.fGraph.fNodes, SlcA kEdge a1.fGraph.fEdges, SlcA kSlot a1.fSlots, iA a1.fVars, SlcA kTest a1.fTests]), (8, iA x8), (95, bA x95)]) (fun (_ : Unit) (_ : Bool) => []) h (fun _ x95 h => ?_) (fun j186 Kj186 h => ?_)
         ·refine qq ?_
          refine qZ h R (fun hb187 h => ?_) (fun hb187 h => ?_)
          ·refine sr <| ak R <| nt <| qN <| vx <| qy <| qy <| vx <| qy ?_
           cases h
           exact vW R R (.t R) (.id _)
          ·refine qK <| vJ <| qq <| qJ <| mv R R ?_
           obtain ⟨c188, h⟩ := qV h
           refine pk R 56 R (vV R c188) <| av R R <| qx ?_
           exact next0 () (x8 + 1) _ h (.o2 R (.one R (.nil _)))
         ·refine qJ <| mv R R <| p1 R 73 R (q_not R) <| mv R R ?_
          rcases bif_s h with ⟨hb189, h⟩ | ⟨hb189, h⟩
          ·refine sk R R R hb189 <| sk R R R hb189 <| sk R R R hb189 <| sk R R R hb189 <| pk R 75 R (vy R hb189) <| mv R R <| sk R R R R <| sk R R R R <| sk R R R R <| sk R R R R <| sk R R R R <| sk R R R R <| pk R 81 R (vy R R) ?_
           refine mv R R <| sk R R R R <| sk R R R R <| sk R R R R <| sk R R R R <| sk R R R R <| pk R 89 R (vy R R) <| qx ?_
           exact qw (.o4 R (.nil _)) (Kj186 () true h)
          ·refine wf R R R hb189 R R fo113_2 R <| wf R R R hb189 R R fo23_0 R <| wl R R R hb189 R R sh3 <| wq R R R hb189 (.s 78 R (.k .nil)) (qB R R).o <| p2 R 75 R 79 R (vz R hb189) <| mv R R ?_
           rcases bif_s h with ⟨hb190, h⟩ | ⟨hb190, h⟩
           ·refine sk R R R hb190 <| sk R R R hb190 <| sk R R R hb190 <| sk R R R hb190 <| sk R R R hb190 <| sk R R R hb190 <| pk R 81 R (vy R hb190) <| mv R R <| sk R R R R <| sk R R R R <| sk R R R R <| sk R R R R <| sk R R R R ?_
            refine pk R 89 R (vy R R) <| qx ?_
            exact qw (.o4 R (.nil _)) (Kj186 () true h)
           ·refine wf R R R hb190 R R fo113_2 R <| wf R R R hb190 R R fo23_0 R <| wl R R R hb190 R R sh3 <| wf R R R hb190 R R fo42_2 R <| wl R R R hb190 R R sh3 <| wq R R R hb190 (.s 84 R (.s 86 R .nil)) (qB R R).o <| p2 R 81 R 87 R (vz R hb190) <| mv R R ?_
            rcases bif_s h with ⟨hb191, h⟩ | ⟨hb191, h⟩
            ·refine sk R R R hb191 <| sk R R R hb191 <| sk R R R hb191 <| sk R R R hb191 <| sk R R R hb191 <| pk R 89 R (vy R hb191) <| qx ?_
             exact qw (.o4 R (.nil _)) (Kj186 () true h)
            ·refine wf R R R hb191 R R fo113_2 R <| wf R R R hb191 R R fo23_1 R <| wl R R R hb191 R R sh3 ?_
             obtain ⟨t192, ht192, h⟩ := vw h
             refine wq R R R hb191 (.s 92 R .nil) (vQ (f := 62) (A := bA t192) (xs := [.tmp 92]) («as» := [iA ((rd a1.fSlots x8).fTerm.fAdd)]) R ca62 (ref21_bounded.con k ((rd a1.fSlots x8).fTerm.fAdd) t192 ht192) R).o <| wq R R R hb191 (.s 93 R .nil) (q_not R).o <| p2 R 89 R 94 R (vz R hb191) <| qx ?_
             exact qw (.o4 R (.nil _)) (Kj186 () (!t192) h)
        ·refine W.exit <| vq <| vq <| vB <| qw (env' := [(3, _)]) (.one R (.nil _)) <| qq <| qX <| sr <| fd R R fo42_2 R <| ld R R sh3 <| fd R R fo42_3 R <| ld R R sh40 ?_
         obtain ⟨t193, ht193, h⟩ := vw h
         refine p2 R 97 R 99 R (vQ (f := 63) (A := iA t193) (xs := [.tmp 97, .tmp 99]) («as» := [iA a1.fVars, SlcA kTest a1.fTests]) R ca63 (ref03_Valid.con k a1.fVars a1.fTests t193 ht193) R) <| av R R <| nx <| mv R R <| pk R 101 R (qB R R) <| nt ?_
         refine qZ h R (fun hb194 h => ?_) (fun hb194 h => ?_)
         ·refine sr <| mv R R <| av R R <| qx <| qw (env' := [(4, _)]) (.one R (.nil _)) <| qq <| qN <| qy ?_
          cases h
          exact vW R R (.t R) (.id _)
         ·refine qK <| qw (env' := [(3, _)]) (.one R (.nil _)) <| qq <| qX <| sr <| ak R <| nt <| vj ?_
          refine W.loop1 (Γ := Unit) (fun (_ : Unit) (x13 : Int) => [(3, PtrA [SlcA kInt a1.fGraph.fNodes, SlcA kEdge a1.fGraph.fEdges, SlcA kSlot a1.fSlots, iA a1.fVars, SlcA kTest a1.fTests]), (13, iA x13)]) (fun (_ : Unit) (_ : Int) => []) h () (.o2 R (.nil _)) R (fun rec1 K1 next1 _ x13 h => ?_)
          unfold ref21_Valid.b1 at h
          refine qX <| sr <| mv R R <| fd R R fo42_2 R <| ld R R sh3 <| p2 R 104 R 106 R (qB R R) <| nt ?_
          refine qZ h R (fun hb203 h => ?_) (fun hb203 h => ?_)
          ·refine qK <| qq <| qX <| vj <| sr <| lS R R sh42 R R <| mv R R ?_
           obtain ⟨t204, ht204, h⟩ := vw h
           refine p2 R 110 R 111 R (vQ (f := 64) (A := bA t204) (xs := [.tmp 110, .tmp 111]) («as» := [AggA [SlcA kInt a1.fGraph.fNodes, SlcA kEdge a1.fGraph.fEdges, SlcA kSlot a1.fSlots, iA a1.fVars, SlcA kTest a1.fTests], iA x13]) R ca64 (ref21_occurs.con k a1 x13 t204 ht204) R) <| p1 R 112 R (q_not R) <| qx <| qw (env' := [(113, _), (13, _), (3, _)]) (.o2 R (.one R (.nil _))) <| qq ?_
           refine qZ h R (fun hb205 h => ?_) (fun hb205 h => ?_)
           ·refine sr <| ak R <| nt <| qN <| vx <| qy <| qy <| vx <| qy ?_
            cases h
            exact vW R R (.t R) (.id _)
           ·refine qK <| vJ <| qq <| qJ <| mv R R ?_
            obtain ⟨c206, h⟩ := qV h
            refine pk R 108 R (vV R c206) <| av R R <| qx ?_
            exact next1 () (x13 + 1) _ h (.o2 R (.nil _))
          ·refine W.exit <| vq <| vq <| vB <| qq <| sr <| ak R <| nt <| qN ?_
           cases h
           exact vW R R (.t R) (.id _)
      ·refine qJ <| fd R R fo42_1 R <| ld R R sh39 <| p1 R 42 R (vN R elS39) <| pk R 43 R (qB R R) <| mv R R ?_
       rcases bif_s h with ⟨hb207, h⟩ | ⟨hb207, h⟩
       ·refine sk R R R hb207 <| sk R R R hb207 <| sk R R R hb207 <| sk R R R hb207 <| pk R 45 R (vy R hb207) <| qx ?_
        exact qw (.o2 R (.one R (.nil _))) (Kj112 () true h)
       ·refine wf R R R hb207 R R fo42_3 R <| wl R R R hb207 R R sh40 <| wq R R R hb207 (.s 47 R .nil) (vN R elS40).o <| wq R R R hb207 (.s 48 R (.k .nil)) (qB R R).o <| p2 R 45 R 49 R (vz R hb207) <| qx ?_
        exact qw (.o2 R (.one R (.nil _))) (Kj112 () (decide ((a1.fTests.length : Int) > 10)) h)
    ·refine qJ <| fd R R fo42_2 R <| ld R R sh3 <| pk R 34 R (qB R R) <| mv R R ?_
     rcases bif_s h with ⟨hb208, h⟩ | ⟨hb208, h⟩
     ·refine sk R R R hb208 <| sk R R R hb208 <| sk R R R hb208 <| pk R 36 R (vy R hb208) <| qx ?_
      exact qw (.o2 R (.one R (.nil _))) (Kj108 () true h)
     ·refine wf R R R hb208 R R fo42_2 R <| wl R R R hb208 R R sh3 <| wq R R R hb208 (.s 38 R (.k .nil)) (qB R R).o <| p2 R 36 R 39 R (vz R hb208) <| qx ?_
      exact qw (.o2 R (.one R (.nil _))) (Kj108 () (decide (a1.fVars > 12)) h)
theorem ref21_value.con (k : Nat) (a0 : Term) (a1 : (List Int)) (r : Int) (h : ref21_value k a0 a1 = some r) : Con Tryz.prog 42 [] [AggA [iA a0.fVar, iA a0.fAdd], SlcA kInt a1] (RA (iA r)) := by
 unfold ref21_value at h
 refine vZ (N := 18) Tryz.func42 R R R fun w0_ fg_ => sr <| p1 R 0 R (q_box R (qz _)) <| ak R <| nt <| qX <| sr <| fd R R fo23_0 R <| ld R R sh3 <| pk R 6 R (qB R R) ?_
 refine nt ?_
 refine qZ h R (fun hb100 h => ?_) (fun hb100 h => ?_)
 ·refine sr <| fd R R fo23_1 R <| ld R R sh3 <| av R R <| qx <| qw (env' := [(4, _)]) (.one R (.nil _)) <| qq <| qN <| qy ?_
  cases h
  exact vW R R (.t R) (.id _)
 ·refine qK <| qq <| qX <| W.drawK [(0, false), (1, false), (2, false), (3, false), (4, false), (5, false), (6, false), (7, false), (8, false)] [] (bm [0, 0, 2, 7, 15, 0, 32, 127, 255]) mx (by kernel_rfl) <| dm R R R <| df R R R fo23_0 R <| dl R R R sh3 ?_
  obtain ⟨c105, h⟩ := qV h
  refine qQ R R (.p R (.s 10 R (.s 12 R .nil)) R (vX R el26 R c105.1 c105.2)) <| dl R R R sh3 <| df R R R fo23_1 R <| dl R R R sh3 ?_
  obtain ⟨c106, h⟩ := qV h
  refine qQ R R (.p R (.s 14 R (.s 16 R .nil)) R (vV R c106)) <| qQ R R (.p R (.s 17 R .nil) R (q_assign R)) <| DK.nil <| CSteps.nil <| qw (env' := [(4, _)]) (.one R (.nil _)) <| qq <| qN ?_
  cases h
  exact vW R R (.t R) (.id _)
theorem ref21_ground.con (k : Nat) (a0 : Term) (a1 : (List Int)) (r : (Term × Int)) (h : ref21_ground k a0 a1 = some r) : Con Tryz.prog 68 [] [AggA [iA a0.fVar, iA a0.fAdd], SlcA kInt a1] (RA (TupA [AggA [iA r.1.fVar, iA r.1.fAdd], iA r.2])) := by
 unfold ref21_ground at h
 refine vZ (N := 16) Tryz.func68 R R R fun w0_ fg_ => sr <| p1 R 0 R (q_box R (qz _)) <| WL.w [] R (qj R) R R .nil (w_alloc R z23 (l := [iA 0, iA 0]) R) ?_
 rintro _ _ ⟨b100, rfl, rfl⟩
 refine ak R <| nx <| lS R R sh23 R R <| mv R R ?_
 obtain ⟨t101, ht101, h⟩ := vw h
 refine p2 R 7 R 8 R (vQ (f := 42) (A := iA t101) (xs := [.tmp 7, .tmp 8]) («as» := [AggA [iA a0.fVar, iA a0.fAdd], SlcA kInt a1]) R ca42 (ref21_value.con k a0 a1 t101 ht101) R) <| av R R <| qx <| qw (env' := [(6, _), (4, _)]) (.o2 R (.nil _)) <| qq <| qX <| sr <| mv R R ?_
 obtain ⟨t102, ht102, h⟩ := vw h
 refine p1 R 10 R (vQ (f := 62) (A := bA t102) (xs := [.tmp 10]) («as» := [iA t101]) R ca62 (ref21_bounded.con k t101 t102 ht102) R) <| p1 R 11 R (q_not R) <| nt ?_
 refine qZ h R (fun hb103 h => ?_) (fun hb103 h => ?_)
 ·refine sr <| WL.p R R R .nil (q_build (is := []) (xs := []) (L := [iA 0, iA 0]) R R z23 pl23 R R .nil R) <| WL.w0 [0] R (qj R) R (.s 4 R (.s 13 R .nil)) (w_store (L := [iA 0, iA 0]) R sh23 (qz _) R R (leB R) R) ?_
  rintro _ _ ⟨rfl, rfl⟩
  refine ak R <| nt <| qN <| qy ?_
  cases h
  exact QR.f2 R R (.cs (i := 0) R sh23 R R) (.t R) (.id _)
 ·refine qK <| qq <| sr <| mv R R <| WL.p R R R (.k (.s 14 R .nil)) (q_build (is := [0, 1]) (xs := [.const (.int .i64 (-1)), .tmp 14]) (L := [iA (-1), iA t101]) R R z23 pl23 R R (.cons (qW R) (.cons (qW R) .nil)) R) <| WL.w0 [0] R (qj R) R (.s 4 R (.s 15 R .nil)) (w_store (L := [iA (-1), iA t101]) R sh23 (qz _) R R (leB R) R) ?_
  rintro _ _ ⟨rfl, rfl⟩
  refine ak R <| nt <| qN ?_
  cases h
  exact QR.f2 R R (.cs (i := 0) R sh23 R R) (.t R) (.id _)
theorem ref21_Ground.con (k : Nat) (a0 : Types) (a1 : Pattern) (a2 : (List Int)) (r : (Pattern × Int)) (h : ref21_Ground k a0 a1 a2 = some r) : Con Tryz.prog 22 [] [AggA [SlcA kNodeType a0.fNodes, SlcA kEdgeType a0.fEdges], AggA [SlcA kInt a1.fGraph.fNodes, SlcA kEdge a1.fGraph.fEdges, SlcA kSlot a1.fSlots, iA a1.fVars, SlcA kTest a1.fTests], SlcA kInt a2] (RA (TupA [AggA [SlcA kInt r.1.fGraph.fNodes, SlcA kEdge r.1.fGraph.fEdges, SlcA kSlot r.1.fSlots, iA r.1.fVars, SlcA kTest r.1.fTests], iA r.2])) := by
 unfold ref21_Ground at h
 refine vZ (N := 121) Tryz.func22 R R R fun w0_ fg_ => sr <| p1 R 0 R (q_box R (qz _)) <| p1 R 1 R (q_box R (qz _)) <| WL.w [] R (qj R) R R .nil (w_alloc R z42 (l := [EqA (.slice none 0 0), EqA (.slice none 0 0), EqA (.slice none 0 0), iA 0, EqA (.slice none 0 0)]) R) ?_
 rintro _ _ ⟨b100, rfl, rfl⟩
 refine ak R <| nt <| qX <| sr <| lS R R sh35 R R <| lS R R sh42 R R ?_
 obtain ⟨t101, ht101, h⟩ := vw h
 refine p2 R 19 R 20 R (vQ (f := 19) (A := iA t101) (xs := [.tmp 19, .tmp 20]) («as» := [AggA [SlcA kNodeType a0.fNodes, SlcA kEdgeType a0.fEdges], AggA [SlcA kInt a1.fGraph.fNodes, SlcA kEdge a1.fGraph.fEdges, SlcA kSlot a1.fSlots, iA a1.fVars, SlcA kTest a1.fTests]]) R ca19 (ref21_Valid.con k a0 a1 t101 ht101) R) <| av R R <| qx <| qw (env' := [(8, _), (6, _), (4, _), (2, _)]) (.o4 R (.nil _)) <| qq <| sr <| mv R R <| pk R 22 R (qB R R) <| nt ?_
 refine qZ h R (fun hb102 h => ?_) (fun hb102 h => ?_)
 ·refine sr <| WL.p R R R .nil (q_build (is := []) (xs := []) (L := [EqA (.slice none 0 0), EqA (.slice none 0 0), EqA (.slice none 0 0), iA 0, EqA (.slice none 0 0)]) R R z42 pl42 R R .nil R) <| mv R R <| WL.w0 [0] R (qj R) R (.s 6 R (.s 24 R .nil)) (w_store (L := [EqA (.slice none 0 0), EqA (.slice none 0 0), EqA (.slice none 0 0), iA 0, EqA (.slice none 0 0)]) R sh42 (qz _) R R (leB R) R) ?_
  rintro _ _ ⟨rfl, rfl⟩
  refine av R R <| qx <| qw (env' := [(7, _), (6, _)]) (.o2 R (.nil _)) <| qq <| qN <| qy ?_
  cases h
  exact QR.f2 R R (.cs (i := 0) R sh42 R R) (.t R) (.imp (Imp.tup (.cons (Imp.agg (.cons (Imp.nil kInt) (.cons (Imp.nil kEdge) (.cons (Imp.nil kSlot) (.cons (Imp.id _) (.cons (Imp.nil kTest) .nil)))))) (.cons (Imp.id _) .nil))))
 ·refine qK <| qq <| qX <| sr <| mv R R <| p1 R 26 R (vN R elS26) <| fd R R fo42_2 R <| ld R R sh3 <| p2 R 27 R 29 R (qB R R) <| qx <| qw (env' := [(30, _), (6, _), (4, _), (2, _)]) (.o4 R (.nil _)) <| qq ?_
  refine qZ h R (fun hb103 h => ?_) (fun hb103 h => ?_)
  ·refine sr <| WL.p R R R .nil (q_build (is := []) (xs := []) (L := [EqA (.slice none 0 0), EqA (.slice none 0 0), EqA (.slice none 0 0), iA 0, EqA (.slice none 0 0)]) R R z42 pl42 R R .nil R) <| WL.w0 [0] R (qj R) R (.s 6 R (.s 31 R .nil)) (w_store (L := [EqA (.slice none 0 0), EqA (.slice none 0 0), EqA (.slice none 0 0), iA 0, EqA (.slice none 0 0)]) R sh42 (qz _) R R (leB R) R) ?_
   rintro _ _ ⟨rfl, rfl⟩
   refine ak R <| nt <| qN <| qy ?_
   cases h
   exact QR.f2 R R (.cs (i := 0) R sh42 R R) (.t R) (.imp (Imp.tup (.cons (Imp.agg (.cons (Imp.nil kInt) (.cons (Imp.nil kEdge) (.cons (Imp.nil kSlot) (.cons (Imp.id _) (.cons (Imp.nil kTest) .nil)))))) (.cons (Imp.id _) .nil))))
  ·refine qK <| qq <| sr <| fd R R fo42_0 R <| lS R R sh38 R R ?_
   obtain ⟨t104, ht104, h⟩ := vw h
   refine WL.w [] R (qj R) R R (.s 33 R .nil) (w_callI (f := 46) (xs := [.tmp 33]) («as» := [AggA [SlcA kInt a1.fGraph.fNodes, SlcA kEdge a1.fGraph.fEdges]]) R ca46 (ref05_Copied.con k a1.fGraph t104 ht104) R (.cons (Imp.id _) .nil)) ?_
   rintro _ _ ⟨v105, v106, rfl, rfl⟩
   refine p1 R 34 R (q_build (is := [0]) (xs := [.tmp 34]) (L := [HdA v105, HdA v106, EqA (.slice none 0 0), iA 0, EqA (.slice none 0 0)]) R R z42 pl42 R R (.cons (qz _) .nil) R) <| WL.w [] R (qj R) R R .nil (w_alloc R z42 (l := [EqA (.slice none 0 0), EqA (.slice none 0 0), EqA (.slice none 0 0), iA 0, EqA (.slice none 0 0)]) R) ?_
   rintro _ _ ⟨b107, rfl, rfl⟩
   refine WL.w0 [0] R (qj R) R (.s 9 R (.s 35 R .nil)) (w_store (L := [HdA v105, HdA v106, EqA (.slice none 0 0), iA 0, EqA (.slice none 0 0)]) R sh42 (qz _) R R (leB R) R) ?_
   rintro _ _ ⟨rfl, rfl⟩
   refine nt <| qX <| sr <| ak R <| nt <| vj <| W.to (StTo.boxImp [0] R (.cons (Imp.id _) (.cons (Imp.id _) (.cons Imp.nilHd (.cons (Imp.id _) (.cons (Imp.id _) .nil)))))) <| W.to (StTo.newNil 113 kSlot) <| W.order [4, 1, 1, 1, 0] R ?_
   refine W.loop2 (Γ := Value) (fun (_ : Value) (_ : (List Slot)) (x10 : Int) => [(2, SlcA kInt a2), (4, PtrA [SlcA kInt a1.fGraph.fNodes, SlcA kEdge a1.fGraph.fEdges, SlcA kSlot a1.fSlots, iA a1.fVars, SlcA kTest a1.fTests]), (6, EqA (.pointer (some ⟨b100, 0, none⟩))), (9, EqA (.pointer (some ⟨b107, 0, none⟩))), (10, iA x10)]) (fun (g0 : Value) (y2 : (List Slot)) (_ : Int) => [BoxE b100 [EqA (.slice none 0 0), EqA (.slice none 0 0), EqA (.slice none 0 0), iA 0, EqA (.slice none 0 0)], BoxE b107 [HdA v105, HdA v106, HdA g0, iA 0, EqA (.slice none 0 0)], SlE 3 v105 kInt t104.fNodes, SlE 109 v106 kEdge t104.fEdges, SlE 113 g0 kSlot y2]) h (.slice none 0 0) (.o4 R (.one R (.nil _))) R (fun rec0 K0 next0 g0 y2 x10 h => ?_)
   unfold ref21_Ground.b0 at h
   refine qX <| sr <| mv R R <| fd R R fo42_1 R <| ld R R sh39 <| p1 R 38 R (vN R elS39) <| p2 R 36 R 39 R (qB R R) <| nt ?_
   refine qZ h R (fun hb279 h => ?_) (fun hb279 h => ?_)
   ·refine qK <| qq <| qX <| vj <| sr <| fd R R fo42_1 R <| ld R R sh39 <| mv R R ?_
    obtain ⟨c280, h⟩ := qV h
    refine p2 R 44 R 45 R (vX R el39 R c280.1 c280.2) <| lS R R sh113 R R <| WL.w [] R (qj R) R R .nil (w_alloc R z113 (l := [iA 0, iA 0, iA 0, iA 0]) R) ?_
    rintro _ _ ⟨b281, rfl, rfl⟩
    refine WL.w0 [0] R (qj R) R (.s 11 R (.s 47 R .nil)) (w_store (L := [iA ((rd a1.fSlots x10).fNode), iA ((rd a1.fSlots x10).fAttr), iA ((rd a1.fSlots x10).fTerm.fVar), iA ((rd a1.fSlots x10).fTerm.fAdd)]) R sh113 (qz _) R R (leB R) R) ?_
    rintro _ _ ⟨rfl, rfl⟩
    refine qx <| QN.to (StTo.still [0] 11 R R) <| qw (env' := [(11, _), (10, _), (9, _), (6, _), (4, _), (2, _)]) (.o4 R (.o2 R (.nil _))) <| qq <| sr <| fd R R fo113_2 R <| lS R R sh23 R R <| mv R R ?_
    obtain ⟨t282, ht282, h⟩ := vw h
    refine p2 R 50 R 51 R (vQ (f := 68) (A := TupA [AggA [iA t282.1.fVar, iA t282.1.fAdd], iA t282.2]) (xs := [.tmp 50, .tmp 51]) («as» := [AggA [iA ((rd a1.fSlots x10).fTerm.fVar), iA ((rd a1.fSlots x10).fTerm.fAdd)], SlcA kInt a2]) R ca68 (ref21_ground.con k ((rd a1.fSlots x10).fTerm) a2 t282 ht282) R) <| mv R R <| p1 R 48 R (vK R R) <| p1 R 48 R (vK R R) <| WL.w [] R (qj R) R R .nil (w_alloc R z23 (l := [iA 0, iA 0]) R) ?_
    rintro _ _ ⟨b283, rfl, rfl⟩
    refine WL.w0 [0] R (qj R) R (.s 12 R (.s 53 R .nil)) (w_store (L := [iA t282.1.fVar, iA t282.1.fAdd]) R sh23 (qz _) R R (leB R) R) ?_
    rintro _ _ ⟨rfl, rfl⟩
    refine av R R <| qx <| QN.to (StTo.still [0] 12 R R) <| qw (env' := [(13, _), (12, _), (11, _), (10, _), (9, _), (6, _), (4, _), (2, _)]) (.o4 R (.o4 R (.nil _))) <| qq <| qX <| sr <| mv R R <| pk R 55 R (qB R R) <| nt ?_
    refine qZ h R (fun hb284 h => ?_) (fun hb284 h => ?_)
    ·refine sr <| WL.p R R R .nil (q_build (is := []) (xs := []) (L := [EqA (.slice none 0 0), EqA (.slice none 0 0), EqA (.slice none 0 0), iA 0, EqA (.slice none 0 0)]) R R z42 pl42 R R .nil R) <| mv R R <| WL.w0 [0] R (qj R) R (.s 6 R (.s 57 R .nil)) (w_store (L := [EqA (.slice none 0 0), EqA (.slice none 0 0), EqA (.slice none 0 0), iA 0, EqA (.slice none 0 0)]) R sh42 (qz _) R R (leB R) R) ?_
     rintro _ _ ⟨rfl, rfl⟩
     refine av R R <| qx <| qw (env' := [(7, _), (6, _)]) (.o2 R (.nil _)) <| qq <| qN <| qy <| vx <| qy <| qy <| vx <| qy ?_
     cases h
     exact QR.f2 R R (.cs (i := 0) R sh42 R R) (.t R) (.imp (Imp.tup (.cons (Imp.agg (.cons (Imp.nil kInt) (.cons (Imp.nil kEdge) (.cons (Imp.nil kSlot) (.cons (Imp.id _) (.cons (Imp.nil kTest) .nil)))))) (.cons (Imp.id _) .nil))))
    ·refine qK <| qq <| qJ <| p1 R 9 R (q_fieldP R fo42_1) <| WL.q (qj R) R R (.s 59 R .nil) (q_loadB R sh39 (i := 1) R R) <| fd R R fo113_0 R <| ld R R sh3 <| fd R R fo113_1 R <| ld R R sh3 <| lS R R sh23 R R <| WL.p R R R (.s 62 R (.s 64 R (.s 65 R .nil))) (q_build (is := [0, 1, 2]) (xs := [.tmp 62, .tmp 64, .tmp 65]) (L := [iA ((rd a1.fSlots x10).fNode), iA ((rd a1.fSlots x10).fAttr), iA t282.1.fVar, iA t282.1.fAdd]) R R z113 pl113 R R (.cons (qW R) (.cons (qW R) (.cons (qz _) .nil))) R) <| p1 R 66 R (q_lit (kd := kSlot) (ps := [(0, .tmp 66)]) (xs := [.tmp 66]) («as» := [AggA [iA ((rd a1.fSlots x10).fNode), iA ((rd a1.fSlots x10).fAttr), iA t282.1.fVar, iA t282.1.fAdd]]) (ys := [(Slot.mk ((rd a1.fSlots x10).fNode) ((rd a1.fSlots x10).fAttr) t282.1)]) R R el39 R gr113 R R R (.cons (qz _) .nil)) ?_
     obtain ⟨c285, h⟩ := qV h
     refine WL.w [4] R (qj R) R R (.s 60 R (.s 67 R .nil)) (w_append (kd := kSlot) R el39 R gr113 c285) ?_
     rintro _ _ ⟨v286, rfl, rfl⟩
     refine p1 R 9 R (q_fieldP R fo42_1) <| WL.w0 [2] R (qj R) R (.s 69 R (.s 68 R .nil)) (w_store (L := [HdA v105, HdA v106, HdA v286, iA 0, EqA (.slice none 0 0)]) R sh39 (qW R) R R (leB R) R) ?_
     rintro _ _ ⟨rfl, rfl⟩
     refine qx <| vJ <| qw (env' := [(10, _), (9, _), (6, _), (4, _), (2, _)]) (.o4 R (.one R (.nil _))) <| qq <| qJ <| mv R R ?_
     obtain ⟨c287, h⟩ := qV h
     refine pk R 41 R (vV R c287) <| av R R <| qx <| QN.order [2, 0, 1, 1, 0] R ?_
     exact next0 v286 (y2 ++ [(Slot.mk ((rd a1.fSlots x10).fNode) ((rd a1.fSlots x10).fAttr) t282.1)]) (x10 + 1) _ h (.o4 R (.one R (.nil _)))
   ·refine W.exit <| vq <| vq <| vB <| qq <| qX <| sr <| ak R <| nt <| vj <| W.to (StTo.boxImp [1] R (.cons (Imp.id _) (.cons (Imp.id _) (.cons (Imp.id _) (.cons (Imp.id _) (.cons Imp.nilHd .nil)))))) ?_
    refine W.to (StTo.newNil 86 kTest) <| W.order [2, 1, 1, 1, 1, 0] R ?_
    refine W.loop2 (Γ := Value) (fun (_ : Value) (_ : (List Test)) (x14 : Int) => [(2, SlcA kInt a2), (4, PtrA [SlcA kInt a1.fGraph.fNodes, SlcA kEdge a1.fGraph.fEdges, SlcA kSlot a1.fSlots, iA a1.fVars, SlcA kTest a1.fTests]), (6, EqA (.pointer (some ⟨b100, 0, none⟩))), (9, EqA (.pointer (some ⟨b107, 0, none⟩))), (14, iA x14)]) (fun (g1 : Value) (y4 : (List Test)) (_ : Int) => [BoxE b100 [EqA (.slice none 0 0), EqA (.slice none 0 0), EqA (.slice none 0 0), iA 0, EqA (.slice none 0 0)], BoxE b107 [HdA v105, HdA v106, HdA g0, iA 0, HdA g1], SlE 3 v105 kInt t104.fNodes, SlE 109 v106 kEdge t104.fEdges, SlE 113 g0 kSlot y2, SlE 86 g1 kTest y4]) h (.slice none 0 0) (.o4 R (.one R (.nil _))) R (fun rec1 K1 next1 g1 y4 x14 h => ?_)
    unfold ref21_Ground.b1 at h
    refine qX <| sr <| mv R R <| fd R R fo42_3 R <| ld R R sh40 <| p1 R 72 R (vN R elS40) <| p2 R 70 R 73 R (qB R R) <| nt ?_
    refine qZ h R (fun hb339 h => ?_) (fun hb339 h => ?_)
    ·refine qK <| qq <| qX <| vj <| sr <| fd R R fo42_3 R <| ld R R sh40 <| mv R R ?_
     obtain ⟨c340, h⟩ := qV h
     refine p2 R 79 R 80 R (vX R el40 R c340.1 c340.2) <| fd R R fo86_1 R <| lS R R sh23 R R <| mv R R ?_
     obtain ⟨t341, ht341, h⟩ := vw h
     refine p2 R 83 R 84 R (vQ (f := 68) (A := TupA [AggA [iA t341.1.fVar, iA t341.1.fAdd], iA t341.2]) (xs := [.tmp 83, .tmp 84]) («as» := [AggA [iA ((rd a1.fTests x14).fLeft.fVar), iA ((rd a1.fTests x14).fLeft.fAdd)], SlcA kInt a2]) R ca68 (ref21_ground.con k ((rd a1.fTests x14).fLeft) a2 t341 ht341) R) <| mv R R <| p1 R 77 R (vK R R) <| p1 R 77 R (vK R R) <| WL.w [] R (qj R) R R .nil (w_alloc R z23 (l := [iA 0, iA 0]) R) ?_
     rintro _ _ ⟨b342, rfl, rfl⟩
     refine WL.w0 [0] R (qj R) R (.s 15 R (.s 86 R .nil)) (w_store (L := [iA t341.1.fVar, iA t341.1.fAdd]) R sh23 (qz _) R R (leB R) R) ?_
     rintro _ _ ⟨rfl, rfl⟩
     refine av R R <| qx <| QN.to (StTo.still [0] 15 R R) <| qw (env' := [(16, _), (15, _), (14, _), (9, _), (6, _), (4, _), (2, _)]) (.o4 R (.o2 R (.one R (.nil _)))) <| qq <| sr <| fd R R fo42_3 R <| ld R R sh40 <| mv R R ?_
     obtain ⟨c343, h⟩ := qV h
     refine p2 R 90 R 91 R (vX R el40 R c343.1 c343.2) <| fd R R fo86_2 R <| lS R R sh23 R R <| mv R R ?_
     obtain ⟨t344, ht344, h⟩ := vw h
     refine p2 R 94 R 95 R (vQ (f := 68) (A := TupA [AggA [iA t344.1.fVar, iA t344.1.fAdd], iA t344.2]) (xs := [.tmp 94, .tmp 95]) («as» := [AggA [iA ((rd a1.fTests x14).fRight.fVar), iA ((rd a1.fTests x14).fRight.fAdd)], SlcA kInt a2]) R ca68 (ref21_ground.con k ((rd a1.fTests x14).fRight) a2 t344 ht344) R) <| mv R R <| p1 R 88 R (vK R R) <| p1 R 88 R (vK R R) <| WL.w [] R (qj R) R R .nil (w_alloc R z23 (l := [iA 0, iA 0]) R) ?_
     rintro _ _ ⟨b345, rfl, rfl⟩
     refine WL.w0 [0] R (qj R) R (.s 17 R (.s 97 R .nil)) (w_store (L := [iA t344.1.fVar, iA t344.1.fAdd]) R sh23 (qz _) R R (leB R) R) ?_
     rintro _ _ ⟨rfl, rfl⟩
     refine av R R <| qx <| QN.to (StTo.still [0] 17 R R) <| qw (env' := [(18, _), (17, _), (16, _), (15, _), (14, _), (9, _), (6, _), (4, _), (2, _)]) (.o4 R (.o4 R (.one R (.nil _)))) <| qq <| qX <| qX ?_
     refine W.jn1 (Γ := Unit) (fun (_ : Unit) (x104 : Bool) => [(2, SlcA kInt a2), (4, PtrA [SlcA kInt a1.fGraph.fNodes, SlcA kEdge a1.fGraph.fEdges, SlcA kSlot a1.fSlots, iA a1.fVars, SlcA kTest a1.fTests]), (6, EqA (.pointer (some ⟨b100, 0, none⟩))), (9, EqA (.pointer (some ⟨b107, 0, none⟩))), (14, iA x14), (15, PtrA [iA t341.1.fVar, iA t341.1.fAdd]), (17, PtrA [iA t344.1.fVar, iA t344.1.fAdd]), (104, bA x104)]) (fun (_ : Unit) (_ : Bool) => [BoxE b100 [EqA (.slice none 0 0), EqA (.slice none 0 0), EqA (.slice none 0 0), iA 0, EqA (.slice none 0 0)], BoxE b107 [HdA v105, HdA v106, HdA g0, iA 0, HdA g1], SlE 3 v105 kInt t104.fNodes, SlE 109 v106 kEdge t104.fEdges, SlE 113 g0 kSlot y2, SlE 86 g1 kTest y4]) h (fun _ x104 h => ?_) (fun j348 Kj348 h => ?_)
     ·refine qq ?_
      refine qZ h R (fun hb349 h => ?_) (fun hb349 h => ?_)
      ·refine sr <| WL.p R R R .nil (q_build (is := []) (xs := []) (L := [EqA (.slice none 0 0), EqA (.slice none 0 0), EqA (.slice none 0 0), iA 0, EqA (.slice none 0 0)]) R R z42 pl42 R R .nil R) <| WL.w0 [0] R (qj R) R (.s 6 R (.s 105 R .nil)) (w_store (L := [EqA (.slice none 0 0), EqA (.slice none 0 0), EqA (.slice none 0 0), iA 0, EqA (.slice none 0 0)]) R sh42 (qz _) R R (leB R) R) ?_
       rintro _ _ ⟨rfl, rfl⟩
       refine ak R <| qx <| qw (env' := [(7, _), (6, _)]) (.o2 R (.nil _)) <| qq <| qN <| qy <| vx <| qy <| qy <| vx <| qy ?_
       cases h
       exact QR.f2 R R (.cs (i := 0) R sh42 R R) (.t R) (.imp (Imp.tup (.cons (Imp.agg (.cons (Imp.nil kInt) (.cons (Imp.nil kEdge) (.cons (Imp.nil kSlot) (.cons (Imp.id _) (.cons (Imp.nil kTest) .nil)))))) (.cons (Imp.id _) .nil))))
      ·refine qK <| qq <| W.drawK [(0, false), (1, true), (2, false), (3, false), (4, false), (5, false), (6, false), (7, false), (8, false), (9, false), (10, false), (11, false)] [12, 13, 14] (bm [0, 1, 0, 4, 0, 28, 60, 124, 0, 0, 1020, 2044, 4095, 8191, 16383]) mx (by kernel_rfl) <| qQ R R (.p R (.s 9 R .nil) R (q_fieldP R fo42_3)) <| qQ R R (.o R (.s 106 R .nil) R (q_loadB R sh40 (i := 1) R R)) <| df R R R fo42_3 R <| dl R R R sh40 <| dm R R R ?_
       obtain ⟨c356, h⟩ := qV h
       refine qQ R R (.p R (.s 109 R (.s 110 R .nil)) R (vX R el40 R c356.1 c356.2)) <| df R R R fo86_0 R <| dl R R R sh3 <| qQ R R (.p R (.s 15 R .nil) R (q_loadS R sh23 (leB R) R)) <| qQ R R (.p R (.s 17 R .nil) R (q_loadS R sh23 (leB R) R)) <| qQ R R (.p R (.s 113 R (.s 114 R (.s 115 R .nil))) R (q_build (is := [0, 1, 2]) (xs := [.tmp 113, .tmp 114, .tmp 115]) (L := [iA ((rd a1.fTests x14).fKind), iA t341.1.fVar, iA t341.1.fAdd, iA t344.1.fVar, iA t344.1.fAdd]) R R z86 pl86 R R (.cons (qW R) (.cons (qz _) (.cons (qz _) .nil))) R)) <| qQ R R (.p R (.s 116 R .nil) R (q_lit (kd := kTest) (ps := [(0, .tmp 116)]) (xs := [.tmp 116]) («as» := [AggA [iA ((rd a1.fTests x14).fKind), iA t341.1.fVar, iA t341.1.fAdd, iA t344.1.fVar, iA t344.1.fAdd]]) (ys := [(Test.mk ((rd a1.fTests x14).fKind) t341.1 t344.1)]) R R el40 R gr86 R R R (.cons (qz _) .nil))) ?_
       obtain ⟨c357, h⟩ := qV h
       refine DK.nil <| CSteps.w [5] R R R R (.s 107 R (.s 117 R .nil)) R (w_append (kd := kTest) R el40 R gr86 c357) ?_
       rintro _ _ ⟨v358, rfl, rfl⟩
       refine CSteps.p R R R (.s 9 R .nil) R (q_fieldP R fo42_3) <| CSteps.w0 [2] R R R (.s 119 R (.s 118 R .nil)) R (w_store (L := [HdA v105, HdA v106, HdA g0, iA 0, HdA v358]) R sh40 (qW R) R R (leB R) R) ?_
       rintro _ _ ⟨rfl, rfl⟩
       refine CSteps.nil <| vJ <| qw (env' := [(14, _), (9, _), (6, _), (4, _), (2, _)]) (.o4 R (.one R (.nil _))) <| qq <| qJ <| mv R R ?_
       obtain ⟨c359, h⟩ := qV h
       refine pk R 75 R (vV R c359) <| av R R <| qx <| QN.order [2, 0, 1, 1, 1, 0] R ?_
       exact next1 v358 (y4 ++ [(Test.mk ((rd a1.fTests x14).fKind) t341.1 t344.1)]) (x14 + 1) _ h (.o4 R (.one R (.nil _)))
     ·refine qJ <| mv R R <| pk R 99 R (qB R R) <| mv R R ?_
      rcases bif_s h with ⟨hb360, h⟩ | ⟨hb360, h⟩
      ·refine sk R R R hb360 <| sk R R R hb360 <| pk R 101 R (vy R hb360) <| qx ?_
       exact qw (.o4 R (.o4 R (.nil _))) (Kj348 () true h)
      ·refine wm R R R hb360 R R <| wq R R R hb360 (.s 102 R (.k .nil)) (qB R R).o <| p2 R 101 R 103 R (vz R hb360) <| qx ?_
       exact qw (.o4 R (.o4 R (.nil _))) (Kj348 () (t344.2 != 0) h)
    ·refine W.exit <| vq <| vq <| vB <| qw (env' := [(9, _), (6, _)]) (.o2 R (.nil _)) <| qq <| sr <| WL.q (qj R) R R (.s 9 R .nil) (q_loadBS (l' := [HdA v105, HdA v106, HdA g0, iA 0, HdA g1]) R sh42 (i := 1) R R R) <| WL.w0 [0] R (qj R) R (.s 6 R (.s 120 R .nil)) (w_store (L := [HdA v105, HdA v106, HdA g0, iA 0, HdA g1]) R sh42 (qz _) R R (leB R) R) ?_
     rintro _ _ ⟨rfl, rfl⟩
     refine ak R <| nt <| qN ?_
     cases h
     exact QR.f2 R R (.cs (i := 0) R sh42 R R) (.t R) (.tup (.cons (.agg (.cons (.slc 2 R) (.cons (.slc 3 R) (.cons (.slc 4 R) (.cons (.id _) (.cons (.slc 5 R) .nil)))))) (.cons (.id _) .nil)))
theorem ref05_Same.con (k : Nat) (a0 : Graph) (a1 : Graph) (r : Bool) (h : ref05_Same k a0 a1 = some r) : Con Tryz.prog 69 [] [AggA [SlcA kInt a0.fNodes, SlcA kEdge a0.fEdges], AggA [SlcA kInt a1.fNodes, SlcA kEdge a1.fEdges]] (RA (bA r)) := by
 unfold ref05_Same at h
 refine vZ (N := 39) Tryz.func69 R R R fun w0_ fg_ => sr <| p1 R 0 R (q_box R (qz _)) <| p1 R 1 R (q_box R (qz _)) <| ak R <| nt <| qX <| qX ?_
 refine W.jn1 (Γ := Unit) (fun (_ : Unit) (x20 : Bool) => [(2, PtrA [SlcA kInt a0.fNodes, SlcA kEdge a0.fEdges]), (3, PtrA [SlcA kInt a1.fNodes, SlcA kEdge a1.fEdges]), (20, bA x20)]) (fun (_ : Unit) (_ : Bool) => []) h (fun _ x20 h => ?_) (fun j103 Kj103 h => ?_)
 ·refine qq ?_
  refine qZ h R (fun hb104 h => ?_) (fun hb104 h => ?_)
  ·refine sr <| ak R <| nt <| qN <| qy ?_
   cases h
   exact vW R R (.t R) (.id _)
  ·refine qK <| qq <| qX <| sr <| ak R <| nt <| vj ?_
   refine W.loop1 (Γ := Unit) (fun (_ : Unit) (x5 : Int) => [(2, PtrA [SlcA kInt a0.fNodes, SlcA kEdge a0.fEdges]), (3, PtrA [SlcA kInt a1.fNodes, SlcA kEdge a1.fEdges]), (5, iA x5)]) (fun (_ : Unit) (_ : Int) => []) h () (.o2 R (.one R (.nil _))) R (fun rec0 K0 next0 _ x5 h => ?_)
   unfold ref05_Same.b0 at h
   refine qX <| sr <| mv R R <| fd R R fo38_1 R <| ld R R sh36 <| p1 R 23 R (vN R elS36) <| p2 R 21 R 24 R (qB R R) <| nt ?_
   refine qZ h R (fun hb123 h => ?_) (fun hb123 h => ?_)
   ·refine qK <| qq <| qX <| vj <| qX <| W.drawK [(0, false), (1, false), (2, false), (3, false), (4, false), (5, false), (6, false), (7, false), (8, false), (9, false), (10, false)] [] (bm [0, 1, 0, 7, 15, 0, 32, 0, 224, 480, 1023]) mx (by kernel_rfl) <| df R R R fo38_1 R <| dl R R R sh36 <| dm R R R ?_
    obtain ⟨c128, h⟩ := qV h
    refine qQ R R (.p R (.s 29 R (.s 30 R .nil)) R (vX R el36 R c128.1 c128.2)) <| qQ R R (.p R (.s 31 R .nil) R (q_loadS R sh109 (leB R) R)) <| df R R R fo38_1 R <| dl R R R sh36 <| dm R R R ?_
    obtain ⟨c129, h⟩ := qV h
    refine qQ R R (.p R (.s 34 R (.s 35 R .nil)) R (vX R el36 R c129.1 c129.2)) <| qQ R R (.p R (.s 36 R .nil) R (q_loadS R sh109 (leB R) R)) <| qQ R R (.p R (.s 32 R (.s 37 R .nil)) R (q_eqIn (ms := [(rd a0.fEdges x5).fType, (rd a0.fEdges x5).fFrom, (rd a0.fEdges x5).fTo]) (ns := [(rd a1.fEdges x5).fType, (rd a1.fEdges x5).fFrom, (rd a1.fEdges x5).fTo]) R issI_109)) <| DK.nil <| CSteps.nil <| qw (env' := [(38, _), (5, _), (3, _), (2, _)]) (.o4 R (.nil _)) <| qq ?_
    refine qZ h R (fun hb130 h => ?_) (fun hb130 h => ?_)
    ·refine sr <| ak R <| nt <| qN <| vx <| qy <| qy <| vx <| qy ?_
     cases h
     exact vW R R (.t R) (.id _)
    ·refine qK <| vJ <| qq <| qJ <| mv R R ?_
     obtain ⟨c131, h⟩ := qV h
     refine pk R 26 R (vV R c131) <| av R R <| qx ?_
     exact next0 () (x5 + 1) _ h (.o2 R (.one R (.nil _)))
   ·refine W.exit <| vq <| vq <| vB <| qw (env' := []) (.nil _) <| qq <| sr <| ak R <| nt <| qN ?_
    cases h
    exact vW R R (.t R) (.id _)
 ·refine qJ <| fd R R fo38_0 R <| ld R R sh26 <| fd R R fo38_0 R <| ld R R sh26 ?_
  obtain ⟨t132, ht132, h⟩ := vw h
  refine p2 R 7 R 9 R (vQ (f := 116) (A := bA t132) (xs := [.tmp 7, .tmp 9]) («as» := [SlcA kInt a0.fNodes, SlcA kInt a1.fNodes]) R ca116 (ref05_SameInts.con k a0.fNodes a1.fNodes t132 ht132) R) <| p1 R 10 R (q_not R) <| mv R R ?_
  rcases bif_s h with ⟨hb133, h⟩ | ⟨hb133, h⟩
  ·refine sk R R R hb133 <| sk R R R hb133 <| sk R R R hb133 <| sk R R R hb133 <| sk R R R hb133 <| sk R R R hb133 <| sk R R R hb133 <| pk R 12 R (vy R hb133) <| qx ?_
   exact qw (.o2 R (.one R (.nil _))) (Kj103 () true h)
  ·refine wf R R R hb133 R R fo38_1 R <| wl R R R hb133 R R sh36 <| wq R R R hb133 (.s 14 R .nil) (vN R elS36).o <| wf R R R hb133 R R fo38_1 R <| wl R R R hb133 R R sh36 <| wq R R R hb133 (.s 17 R .nil) (vN R elS36).o <| wq R R R hb133 (.s 15 R (.s 18 R .nil)) (qB R R).o <| p2 R 12 R 19 R (vz R hb133) <| qx ?_
   exact qw (.o2 R (.one R (.nil _))) (Kj103 () ((a0.fEdges.length : Int) != (a1.fEdges.length : Int)) h)
theorem ref21_Same.con (k : Nat) (a0 : Pattern) (a1 : Pattern) (r : Bool) (h : ref21_Same k a0 a1 = some r) : Con Tryz.prog 23 [] [AggA [SlcA kInt a0.fGraph.fNodes, SlcA kEdge a0.fGraph.fEdges, SlcA kSlot a0.fSlots, iA a0.fVars, SlcA kTest a0.fTests], AggA [SlcA kInt a1.fGraph.fNodes, SlcA kEdge a1.fGraph.fEdges, SlcA kSlot a1.fSlots, iA a1.fVars, SlcA kTest a1.fTests]] (RA (bA r)) := by
 unfold ref21_Same at h
 refine vZ (N := 74) Tryz.func23 R R R fun w0_ fg_ => sr <| p1 R 0 R (q_box R (qz _)) <| p1 R 1 R (q_box R (qz _)) <| ak R <| nt <| qX <| qX ?_
 refine W.jn1 (Γ := Unit) (fun (_ : Unit) (x37 : Bool) => [(2, PtrA [SlcA kInt a0.fGraph.fNodes, SlcA kEdge a0.fGraph.fEdges, SlcA kSlot a0.fSlots, iA a0.fVars, SlcA kTest a0.fTests]), (3, PtrA [SlcA kInt a1.fGraph.fNodes, SlcA kEdge a1.fGraph.fEdges, SlcA kSlot a1.fSlots, iA a1.fVars, SlcA kTest a1.fTests]), (37, bA x37)]) (fun (_ : Unit) (_ : Bool) => []) h (fun _ x37 h => ?_) (fun j105 Kj105 h => ?_)
 ·refine qq ?_
  refine qZ h R (fun hb106 h => ?_) (fun hb106 h => ?_)
  ·refine sr <| ak R <| nt <| qN <| qy ?_
   cases h
   exact vW R R (.t R) (.id _)
  ·refine qK <| qq <| qX <| sr <| ak R <| nt <| vj ?_
   refine W.loop1 (Γ := Unit) (fun (_ : Unit) (x5 : Int) => [(2, PtrA [SlcA kInt a0.fGraph.fNodes, SlcA kEdge a0.fGraph.fEdges, SlcA kSlot a0.fSlots, iA a0.fVars, SlcA kTest a0.fTests]), (3, PtrA [SlcA kInt a1.fGraph.fNodes, SlcA kEdge a1.fGraph.fEdges, SlcA kSlot a1.fSlots, iA a1.fVars, SlcA kTest a1.fTests]), (5, iA x5)]) (fun (_ : Unit) (_ : Int) => []) h () (.o2 R (.one R (.nil _))) R (fun rec0 K0 next0 _ x5 h => ?_)
   unfold ref21_Same.b0 at h
   refine qX <| sr <| mv R R <| fd R R fo42_1 R <| ld R R sh39 <| p1 R 40 R (vN R elS39) <| p2 R 38 R 41 R (qB R R) <| nt ?_
   refine qZ h R (fun hb179 h => ?_) (fun hb179 h => ?_)
   ·refine qK <| qq <| qX <| vj <| qX <| W.drawK [(0, false), (1, false), (2, false), (3, false), (4, false), (5, false), (6, false), (7, false), (8, false), (9, false), (10, false)] [] (bm [0, 1, 0, 7, 15, 0, 32, 0, 224, 480, 1023]) mx (by kernel_rfl) <| df R R R fo42_1 R <| dl R R R sh39 <| dm R R R ?_
    obtain ⟨c184, h⟩ := qV h
    refine qQ R R (.p R (.s 46 R (.s 47 R .nil)) R (vX R el39 R c184.1 c184.2)) <| qQ R R (.p R (.s 48 R .nil) R (q_loadS R sh113 (leB R) R)) <| df R R R fo42_1 R <| dl R R R sh39 <| dm R R R ?_
    obtain ⟨c185, h⟩ := qV h
    refine qQ R R (.p R (.s 51 R (.s 52 R .nil)) R (vX R el39 R c185.1 c185.2)) <| qQ R R (.p R (.s 53 R .nil) R (q_loadS R sh113 (leB R) R)) <| qQ R R (.p R (.s 49 R (.s 54 R .nil)) R (q_eqFn (ms := [Lf.i ((rd a0.fSlots x5).fNode), Lf.i ((rd a0.fSlots x5).fAttr), Lf.i ((rd a0.fSlots x5).fTerm.fVar), Lf.i ((rd a0.fSlots x5).fTerm.fAdd)]) (ns := [Lf.i ((rd a1.fSlots x5).fNode), Lf.i ((rd a1.fSlots x5).fAttr), Lf.i ((rd a1.fSlots x5).fTerm.fVar), Lf.i ((rd a1.fSlots x5).fTerm.fAdd)]) R fst113)) <| DK.nil <| CSteps.nil <| qw (env' := [(55, _), (5, _), (3, _), (2, _)]) (.o4 R (.nil _)) <| qq ?_
    refine qZ h R (fun hb186 h => ?_) (fun hb186 h => ?_)
    ·refine sr <| ak R <| nt <| qN <| vx <| qy <| qy <| vx <| qy ?_
     cases h
     exact vW R R (.t R) (.id _)
    ·refine qK <| vJ <| qq <| qJ <| mv R R ?_
     obtain ⟨c187, h⟩ := qV h
     refine pk R 43 R (vV R c187) <| av R R <| qx ?_
     exact next0 () (x5 + 1) _ h (.o2 R (.one R (.nil _)))
   ·refine W.exit <| vq <| vq <| vB <| qq <| qX <| sr <| ak R <| nt <| vj ?_
    refine W.loop1 (Γ := Unit) (fun (_ : Unit) (x6 : Int) => [(2, PtrA [SlcA kInt a0.fGraph.fNodes, SlcA kEdge a0.fGraph.fEdges, SlcA kSlot a0.fSlots, iA a0.fVars, SlcA kTest a0.fTests]), (3, PtrA [SlcA kInt a1.fGraph.fNodes, SlcA kEdge a1.fGraph.fEdges, SlcA kSlot a1.fSlots, iA a1.fVars, SlcA kTest a1.fTests]), (6, iA x6)]) (fun (_ : Unit) (_ : Int) => []) h () (.o2 R (.one R (.nil _))) R (fun rec1 K1 next1 _ x6 h => ?_)
    unfold ref21_Same.b1 at h
    refine qX <| sr <| mv R R <| fd R R fo42_3 R <| ld R R sh40 <| p1 R 58 R (vN R elS40) <| p2 R 56 R 59 R (qB R R) <| nt ?_
    refine qZ h R (fun hb206 h => ?_) (fun hb206 h => ?_)
    ·refine qK <| qq <| qX <| vj <| qX <| W.drawK [(0, false), (1, false), (2, false), (3, false), (4, false), (5, false), (6, false), (7, false), (8, false), (9, false), (10, false)] [] (bm [0, 1, 0, 7, 15, 0, 32, 0, 224, 480, 1023]) mx (by kernel_rfl) <| df R R R fo42_3 R <| dl R R R sh40 <| dm R R R ?_
     obtain ⟨c211, h⟩ := qV h
     refine qQ R R (.p R (.s 64 R (.s 65 R .nil)) R (vX R el40 R c211.1 c211.2)) <| qQ R R (.p R (.s 66 R .nil) R (q_loadS R sh86 (leB R) R)) <| df R R R fo42_3 R <| dl R R R sh40 <| dm R R R ?_
     obtain ⟨c212, h⟩ := qV h
     refine qQ R R (.p R (.s 69 R (.s 70 R .nil)) R (vX R el40 R c212.1 c212.2)) <| qQ R R (.p R (.s 71 R .nil) R (q_loadS R sh86 (leB R) R)) <| qQ R R (.p R (.s 67 R (.s 72 R .nil)) R (q_eqFn (ms := [Lf.i ((rd a0.fTests x6).fKind), Lf.i ((rd a0.fTests x6).fLeft.fVar), Lf.i ((rd a0.fTests x6).fLeft.fAdd), Lf.i ((rd a0.fTests x6).fRight.fVar), Lf.i ((rd a0.fTests x6).fRight.fAdd)]) (ns := [Lf.i ((rd a1.fTests x6).fKind), Lf.i ((rd a1.fTests x6).fLeft.fVar), Lf.i ((rd a1.fTests x6).fLeft.fAdd), Lf.i ((rd a1.fTests x6).fRight.fVar), Lf.i ((rd a1.fTests x6).fRight.fAdd)]) R fst86)) <| DK.nil <| CSteps.nil <| qw (env' := [(73, _), (6, _), (3, _), (2, _)]) (.o4 R (.nil _)) <| qq ?_
     refine qZ h R (fun hb213 h => ?_) (fun hb213 h => ?_)
     ·refine sr <| ak R <| nt <| qN <| vx <| qy <| qy <| vx <| qy ?_
      cases h
      exact vW R R (.t R) (.id _)
     ·refine qK <| vJ <| qq <| qJ <| mv R R ?_
      obtain ⟨c214, h⟩ := qV h
      refine pk R 61 R (vV R c214) <| av R R <| qx ?_
      exact next1 () (x6 + 1) _ h (.o2 R (.one R (.nil _)))
    ·refine W.exit <| vq <| vq <| vB <| qw (env' := []) (.nil _) <| qq <| sr <| ak R <| nt <| qN ?_
     cases h
     exact vW R R (.t R) (.id _)
 ·refine qJ <| fd R R fo42_0 R <| lS R R sh38 R R <| fd R R fo42_0 R <| lS R R sh38 R R ?_
  obtain ⟨t215, ht215, h⟩ := vw h
  refine p2 R 8 R 10 R (vQ (f := 69) (A := bA t215) (xs := [.tmp 8, .tmp 10]) («as» := [AggA [SlcA kInt a0.fGraph.fNodes, SlcA kEdge a0.fGraph.fEdges], AggA [SlcA kInt a1.fGraph.fNodes, SlcA kEdge a1.fGraph.fEdges]]) R ca69 (ref05_Same.con k a0.fGraph a1.fGraph t215 ht215) R) <| p1 R 11 R (q_not R) <| mv R R ?_
  rcases bif_s h with ⟨hb216, h⟩ | ⟨hb216, h⟩
  ·refine sk R R R hb216 <| sk R R R hb216 <| sk R R R hb216 <| sk R R R hb216 <| sk R R R hb216 <| pk R 13 R (vy R hb216) <| mv R R <| sk R R R R <| sk R R R R <| sk R R R R <| sk R R R R <| sk R R R R <| sk R R R R ?_
   refine sk R R R R <| pk R 20 R (vy R R) <| mv R R <| sk R R R R <| sk R R R R <| sk R R R R <| sk R R R R <| sk R R R R <| sk R R R R <| sk R R R R <| pk R 29 R (vy R R) <| qx ?_
   exact qw (.o2 R (.one R (.nil _))) (Kj105 () true h)
  ·refine wf R R R hb216 R R fo42_2 R <| wl R R R hb216 R R sh3 <| wf R R R hb216 R R fo42_2 R <| wl R R R hb216 R R sh3 <| wq R R R hb216 (.s 15 R (.s 17 R .nil)) (qB R R).o <| p2 R 13 R 18 R (vz R hb216) <| mv R R ?_
   rcases bif_s h with ⟨hb217, h⟩ | ⟨hb217, h⟩
   ·refine sk R R R hb217 <| sk R R R hb217 <| sk R R R hb217 <| sk R R R hb217 <| sk R R R hb217 <| sk R R R hb217 <| sk R R R hb217 <| pk R 20 R (vy R hb217) <| mv R R <| sk R R R R <| sk R R R R <| sk R R R R <| sk R R R R ?_
    refine sk R R R R <| sk R R R R <| sk R R R R <| pk R 29 R (vy R R) <| qx ?_
    exact qw (.o2 R (.one R (.nil _))) (Kj105 () true h)
   ·refine wf R R R hb217 R R fo42_1 R <| wl R R R hb217 R R sh39 <| wq R R R hb217 (.s 22 R .nil) (vN R elS39).o <| wf R R R hb217 R R fo42_1 R <| wl R R R hb217 R R sh39 <| wq R R R hb217 (.s 25 R .nil) (vN R elS39).o <| wq R R R hb217 (.s 23 R (.s 26 R .nil)) (qB R R).o <| p2 R 20 R 27 R (vz R hb217) <| mv R R ?_
    rcases bif_s h with ⟨hb218, h⟩ | ⟨hb218, h⟩
    ·refine sk R R R hb218 <| sk R R R hb218 <| sk R R R hb218 <| sk R R R hb218 <| sk R R R hb218 <| sk R R R hb218 <| sk R R R hb218 <| pk R 29 R (vy R hb218) <| qx ?_
     exact qw (.o2 R (.one R (.nil _))) (Kj105 () true h)
    ·refine wf R R R hb218 R R fo42_3 R <| wl R R R hb218 R R sh40 <| wq R R R hb218 (.s 31 R .nil) (vN R elS40).o <| wf R R R hb218 R R fo42_3 R <| wl R R R hb218 R R sh40 <| wq R R R hb218 (.s 34 R .nil) (vN R elS40).o <| wq R R R hb218 (.s 32 R (.s 35 R .nil)) (qB R R).o <| p2 R 29 R 36 R (vz R hb218) <| qx ?_
     exact qw (.o2 R (.one R (.nil _))) (Kj105 () ((a0.fTests.length : Int) != (a1.fTests.length : Int)) h)
theorem law21_AttributeGround.con (k : Nat) (a0 : Types) (a1 : Pattern) (a2 : (List Int)) (r : Bool) (h : law21_AttributeGround k a0 a1 a2 = some r) : Con Tryz.prog 5 [] [AggA [SlcA kNodeType a0.fNodes, SlcA kEdgeType a0.fEdges], AggA [SlcA kInt a1.fGraph.fNodes, SlcA kEdge a1.fGraph.fEdges, SlcA kSlot a1.fSlots, iA a1.fVars, SlcA kTest a1.fTests], SlcA kI32 a2] (RA (bA r)) := by
 unfold law21_AttributeGround at h
 refine vZ (N := 68) Tryz.func5 R R R fun w0_ fg_ => sr <| p1 R 0 R (q_box R (qz _)) <| p1 R 1 R (q_box R (qz _)) <| ak R <| nt <| qX <| qX ?_
 refine W.jn1 (Γ := Unit) (fun (_ : Unit) (x30 : Bool) => [(2, SlcA kI32 a2), (3, PtrA [SlcA kNodeType a0.fNodes, SlcA kEdgeType a0.fEdges]), (4, PtrA [SlcA kInt a1.fGraph.fNodes, SlcA kEdge a1.fGraph.fEdges, SlcA kSlot a1.fSlots, iA a1.fVars, SlcA kTest a1.fTests]), (30, bA x30)]) (fun (_ : Unit) (_ : Bool) => []) h (fun _ x30 h => ?_) (fun j107 Kj107 h => ?_)
 ·refine qq ?_
  refine qZ h R (fun hb108 h => ?_) (fun hb108 h => ?_)
  ·refine sr ?_
   obtain ⟨t109, ht109, h⟩ := vw h
   refine WL.p R R R .nil (vQ (f := 9) (A := bA t109) (xs := []) («as» := []) R ca9 (law21_awake.con k  t109 ht109) R) <| av R R <| nt <| qN <| qy ?_
   cases h
   exact vW R R (.t R) (.id _)
  ·refine qK <| qq <| sr <| ak R <| nt <| qX <| sr <| mv R R <| p1 R 32 R (vN R elS24) <| mk_ R ?_
   refine nt <| vj <| W.to (StTo.newNil 3 kInt) <| W.to (StTo.as 7 R Imp.nilHd) ?_
   refine W.loop2 (Γ := Value) (fun (g0 : Value) (_ : (List Int)) (x34 : Int) => [(3, PtrA [SlcA kNodeType a0.fNodes, SlcA kEdgeType a0.fEdges]), (4, PtrA [SlcA kInt a1.fGraph.fNodes, SlcA kEdge a1.fGraph.fEdges, SlcA kSlot a1.fSlots, iA a1.fVars, SlcA kTest a1.fTests]), (7, HdA g0), (32, SlcA kI32 a2), (33, iA (a2.length : Int)), (34, iA x34)]) (fun (g0 : Value) (x7 : (List Int)) (_ : Int) => [SlE 3 g0 kInt x7]) h (.slice none 0 0) (.o4 R (.o2 R (.nil _))) R (fun rec0 K0 next0 g0 x7 x34 h => ?_)
   unfold law21_AttributeGround.b0 at h
   refine sr <| p2 R 34 R 33 R (qB R R) <| nt <| qX ?_
   refine qZ h R (fun hb168 h => ?_) (fun hb168 h => ?_)
   ·refine qK <| qq <| qX <| vj <| sr ?_
    obtain ⟨c169, h⟩ := qV h
    refine p2 R 32 R 34 R (vX R el24 R c169.1 c169.2) <| ld R R sh21 <| av R R <| nt <| qJ <| mv R R <| mv R R <| p1 R 39 R (q_conv R cv3 cvS21) <| p1 R 40 R (q_lit (kd := kInt) (ps := [(0, .tmp 40)]) (xs := [.tmp 40]) («as» := [iA (IntKind.i64.wrap (rd a2 x34))]) (ys := [(IntKind.i64.wrap (rd a2 x34))]) R R el26 R gr3 R R R (.cons (qW R) .nil)) ?_
    obtain ⟨c170, h⟩ := qV h
    refine WL.w [0] R (qj R) R R (.s 38 R (.s 41 R .nil)) (w_append (kd := kInt) R el26 R gr3 c170) ?_
    rintro _ _ ⟨v171, rfl, rfl⟩
    refine av R R <| qx <| vJ <| qw (env' := [(7, _), (34, _), (33, _), (32, _), (4, _), (3, _)]) (.o4 R (.o2 R (.nil _))) <| qq <| qJ ?_
    obtain ⟨c172, h⟩ := qV h
    refine pk R 34 R (vV R c172) <| mv R R <| qx ?_
    exact next0 v171 (x7 ++ [(IntKind.i64.wrap (rd a2 x34))]) (x34 + 1) _ h (.o4 R (.o2 R (.nil _)))
   ·refine W.exit <| vq <| vq <| vB <| qq <| qX <| W.drawKT [(0, false), (1, false), (2, false), (3, false), (4, true), (5, false), (6, false), (7, false), (8, false)] [9, 10, 11] [9, 11] 3 [[], [], [1], [], [1, 2, 3], [0, 1, 2, 3, 4], [0, 1, 2, 3, 4, 5], [0, 1, 2, 3, 4, 5, 6], [0, 1, 2, 3, 4, 5, 6], [], [0, 1, 2, 3, 4, 5, 6, 7, 9], [0, 1, 2, 3, 4, 5, 6, 7, 8, 9, 10]] mx (by kernel_rfl) <| DKT.cons R R (.p R (.s 3 R .nil) R (q_loadS R sh35 (leB R) R)) <| DKT.cons R R (.p R (.s 4 R .nil) R (q_loadS R sh42 (leB R) R)) ?_
    obtain ⟨t181, ht181, h⟩ := vw h
    refine DKT.cons R R (.p R (.s 46 R .nil) R (vQ (f := 16) (A := AggA [SlcA kInt t181.fGraph.fNodes, SlcA kEdge t181.fGraph.fEdges, SlcA kSlot t181.fSlots, iA t181.fVars, SlcA kTest t181.fTests]) (xs := [.tmp 46]) («as» := [AggA [SlcA kInt a1.fGraph.fNodes, SlcA kEdge a1.fGraph.fEdges, SlcA kSlot a1.fSlots, iA a1.fVars, SlcA kTest a1.fTests]]) R ca16 (ref21_Copied.con k a1 t181 ht181) R)) <| DKT.cons R R (.p R (.s 7 R .nil) R (q_move R)) ?_
    obtain ⟨t182, ht182, h⟩ := vw h
    refine DKT.cons R R (.o R (.s 48 R .nil) R (fun _ => (q_lendNew (f := 11) (xs := [.tmp 48]) («as» := [HdA g0]) R ca11 (slices_Clone_int.conN k x7 t182 ht182) R (.cons (.slc 0 R) .nil) kIntFlat))) ?_
    obtain ⟨t183, ht183, h⟩ := vw h
    refine DKT.cons R R (.p R (.s 45 R (.s 47 R (.s 49 R .nil))) R (vQ (f := 21) (A := TupA [AggA [SlcA kInt t183.1.fGraph.fNodes, SlcA kEdge t183.1.fGraph.fEdges, SlcA kSlot t183.1.fSlots, iA t183.1.fVars, SlcA kTest t183.1.fTests], iA t183.2]) (xs := [.tmp 45, .tmp 47, .tmp 49]) («as» := [AggA [SlcA kNodeType a0.fNodes, SlcA kEdgeType a0.fEdges], AggA [SlcA kInt t181.fGraph.fNodes, SlcA kEdge t181.fGraph.fEdges, SlcA kSlot t181.fSlots, iA t181.fVars, SlcA kTest t181.fTests], SlcA kInt t182]) R ca21 (attribute_Ground.con k a0 t181 t182 t183 ht183) R)) <| DKT.cons R R (.p R (.s 50 R .nil) R (q_move R)) <| DKT.cons R R (.p R (.s 44 R .nil) R (vK R R)) <| DKT.cons R R (.p R (.s 44 R .nil) R (vK R R)) <| DKT.nil <| CT.step ?_
    refine CTc.yes R ?_ ?_
    ·refine CStep1.w [] (fun _ => R) R R R R .nil R (w_alloc R z42 (l := [EqA (.slice none 0 0), EqA (.slice none 0 0), EqA (.slice none 0 0), iA 0, EqA (.slice none 0 0)]) R) ?_
     rintro _ _ ⟨b184, rfl, rfl⟩
     refine CT.list (l' := [10, 11]) R <| CT.step ?_
     refine CTc.yes R ?_ ?_
     ·refine CStep1.w0 [0] (fun h => absurd h (by decide)) R R R (.s 10 R (.s 51 R .nil)) R (w_store (L := [SlcA kInt t183.1.fGraph.fNodes, SlcA kEdge t183.1.fGraph.fEdges, SlcA kSlot t183.1.fSlots, iA t183.1.fVars, SlcA kTest t183.1.fTests]) R sh42 (qz _) R R (leB R) R) ?_
      rintro _ _ ⟨rfl, rfl⟩
      refine CT.list (l' := [11]) R <| CT.step ?_
      refine CTc.yes R ?_ ?_
      ·refine CStep1.p R R R (.s 52 R .nil) R (q_assign R) <| CT.list (l' := []) R <| CT.nil <| QN.to (StTo.still [0] 10 R R) <| qw (env' := [(11, _), (10, _), (7, _), (4, _), (3, _)]) (.o4 R (.one R (.nil _))) <| qq <| sr <| lS R R sh35 R R <| lS R R sh42 R R <| mv R R ?_
       obtain ⟨t186, ht186, h⟩ := vw h
       refine WL.to (StTo.freeze [0] 56 R R) <| WL.p R R R (.s 54 R (.s 55 R (.s 56 R .nil))) (vQ (f := 22) (A := TupA [AggA [SlcA kInt t186.1.fGraph.fNodes, SlcA kEdge t186.1.fGraph.fEdges, SlcA kSlot t186.1.fSlots, iA t186.1.fVars, SlcA kTest t186.1.fTests], iA t186.2]) (xs := [.tmp 54, .tmp 55, .tmp 56]) («as» := [AggA [SlcA kNodeType a0.fNodes, SlcA kEdgeType a0.fEdges], AggA [SlcA kInt a1.fGraph.fNodes, SlcA kEdge a1.fGraph.fEdges, SlcA kSlot a1.fSlots, iA a1.fVars, SlcA kTest a1.fTests], SlcA kInt x7]) R ca22 (ref21_Ground.con k a0 a1 x7 t186 ht186) R) <| mv R R <| p1 R 53 R (vK R R) <| p1 R 53 R (vK R R) <| WL.w [] R (qj R) R R .nil (w_alloc R z42 (l := [EqA (.slice none 0 0), EqA (.slice none 0 0), EqA (.slice none 0 0), iA 0, EqA (.slice none 0 0)]) R) ?_
       rintro _ _ ⟨b187, rfl, rfl⟩
       refine WL.w0 [0] R (qj R) R (.s 12 R (.s 58 R .nil)) (w_store (L := [SlcA kInt t186.1.fGraph.fNodes, SlcA kEdge t186.1.fGraph.fEdges, SlcA kSlot t186.1.fSlots, iA t186.1.fVars, SlcA kTest t186.1.fTests]) R sh42 (qz _) R R (leB R) R) ?_
       rintro _ _ ⟨rfl, rfl⟩
       refine av R R <| qx <| QN.to (StTo.still [0] 12 R R) <| qw (env' := [(13, _), (12, _), (11, _), (10, _)]) (.o4 R (.nil _)) <| qq <| qX ?_
       refine W.jn1 (Γ := Unit) (fun (_ : Unit) (x6 : Bool) => [(6, bA x6)]) (fun (_ : Unit) (_ : Bool) => []) h (fun _ x6 h => ?_) (fun j191 Kj191 h => ?_)
       ·refine qq <| qN ?_
        cases h
        exact vW R R (.t R) (.id _)
       ·refine qJ <| mv R R <| mv R R <| p2 R 60 R 61 R (qB R R) <| mv R R ?_
        rcases bif_s h with ⟨hb192, h⟩ | ⟨hb192, h⟩
        ·refine wq R R R hb192 (.s 10 R .nil) (q_loadS R sh42 (leB R) R).o <| wq R R R hb192 (.s 12 R .nil) (q_loadS R sh42 (leB R) R).o ?_
         obtain ⟨t193, ht193, h⟩ := vw h
         refine wq R R R hb192 (.s 64 R (.s 65 R .nil)) (vQ (f := 23) (A := bA t193) (xs := [.tmp 64, .tmp 65]) («as» := [AggA [SlcA kInt t183.1.fGraph.fNodes, SlcA kEdge t183.1.fGraph.fEdges, SlcA kSlot t183.1.fSlots, iA t183.1.fVars, SlcA kTest t183.1.fTests], AggA [SlcA kInt t186.1.fGraph.fNodes, SlcA kEdge t186.1.fGraph.fEdges, SlcA kSlot t186.1.fSlots, iA t186.1.fVars, SlcA kTest t186.1.fTests]]) R ca23 (ref21_Same.con k t183.1 t186.1 t193 ht193) R).o <| p2 R 63 R 66 R (vy R hb192) <| av R R <| qx ?_
         exact qw (.one R (.nil _)) (Kj191 () t193 h)
        ·refine sk R R R hb192 <| sk R R R hb192 <| sk R R R hb192 <| pk R 63 R (vz R hb192) <| av R R <| qx ?_
         exact qw (.one R (.nil _)) (Kj191 () false h)
      exact CTc.end
     refine CTc.no R ?_
     exact CTc.end
    refine CTc.no R <| CTc.no R ?_
    exact CTc.end
 ·refine qJ ?_
  obtain ⟨t194, ht194, h⟩ := vw h
  refine WL.p R R R .nil (vQ (f := 9) (A := bA t194) (xs := []) («as» := []) R ca9 (law21_awake.con k  t194 ht194) R) <| p1 R 14 R (q_not R) <| mv R R ?_
  rcases bif_s h with ⟨hb195, h⟩ | ⟨hb195, h⟩
  ·refine sk R R R hb195 <| sk R R R hb195 <| sk R R R hb195 <| pk R 16 R (vy R hb195) <| mv R R <| sk R R R R <| sk R R R R <| sk R R R R <| pk R 21 R (vy R R) <| mv R R <| sk R R R R <| sk R R R R <| sk R R R R ?_
   refine pk R 26 R (vy R R) <| qx ?_
   exact qw (.o4 R (.nil _)) (Kj107 () true h)
  ·refine wq R R R hb195 (.s 3 R .nil) (q_loadS R sh35 (leB R) R).o ?_
   obtain ⟨t196, ht196, h⟩ := vw h
   refine wq R R R hb195 (.s 17 R .nil) (vQ (f := 13) (A := bA t196) (xs := [.tmp 17]) («as» := [AggA [SlcA kNodeType a0.fNodes, SlcA kEdgeType a0.fEdges]]) R ca13 (ref04_Few.con k a0 t196 ht196) R).o <| wq R R R hb195 (.s 18 R .nil) (q_not R).o <| p2 R 16 R 19 R (vz R hb195) <| mv R R ?_
   rcases bif_s h with ⟨hb197, h⟩ | ⟨hb197, h⟩
   ·refine sk R R R hb197 <| sk R R R hb197 <| sk R R R hb197 <| pk R 21 R (vy R hb197) <| mv R R <| sk R R R R <| sk R R R R <| sk R R R R <| pk R 26 R (vy R R) <| qx ?_
    exact qw (.o4 R (.nil _)) (Kj107 () true h)
   ·refine wq R R R hb197 (.s 4 R .nil) (q_loadS R sh42 (leB R) R).o ?_
    obtain ⟨t198, ht198, h⟩ := vw h
    refine wq R R R hb197 (.s 22 R .nil) (vQ (f := 14) (A := bA t198) (xs := [.tmp 22]) («as» := [AggA [SlcA kInt a1.fGraph.fNodes, SlcA kEdge a1.fGraph.fEdges, SlcA kSlot a1.fSlots, iA a1.fVars, SlcA kTest a1.fTests]]) R ca14 (ref21_Few.con k a1 t198 ht198) R).o <| wq R R R hb197 (.s 23 R .nil) (q_not R).o <| p2 R 21 R 24 R (vz R hb197) <| mv R R ?_
    rcases bif_s h with ⟨hb199, h⟩ | ⟨hb199, h⟩
    ·refine sk R R R hb199 <| sk R R R hb199 <| sk R R R hb199 <| pk R 26 R (vy R hb199) <| qx ?_
     exact qw (.o4 R (.nil _)) (Kj107 () true h)
    ·refine wm R R R hb199 R R <| wq R R R hb199 (.s 27 R .nil) (vN R elS24).o <| wq R R R hb199 (.s 28 R (.k .nil)) (qB R R).o <| p2 R 26 R 29 R (vz R hb199) <| qx ?_
     exact qw (.o4 R (.nil _)) (Kj107 () (decide ((a2.length : Int) > 20)) h)
end Go.Proofs.YtcgdfjpeboiioaaGreat
