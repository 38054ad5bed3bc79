import Derived.Test.YtcgdfjpeboiioaaGreatMtC11
namespace Go.Proofs.YtcgdfjpeboiioaaGreat
open Go Go.Abs
attribute [local irreducible] Tryz.prog
theorem ref03_value.con (k : Nat) (a0 : Term) (a1 : (List Int)) (r : (Int × Bool)) (h : ref03_value k a0 a1 = some r) : Con Tryz.prog 169 [] [AggA [iA a0.fVar, iA a0.fAdd], SlcA kInt a1] (RA (TupA [iA r.1, bA r.2])) := by
 unfold ref03_value at h
 refine vZ (N := 29) Tryz.func169 R R R fun w0_ fg_ => sr <| p1 R 0 R (bx R (qj _)) <| ak R <| ak R <| nt <| qX <| sr <| fd R R fo23_0 R <| ld R R sh3 ?_
 refine pk R 7 R (qB R R) <| nt ?_
 refine qZ h R (fun hb100 h => ?_) (fun hb100 h => ?_)
 ·refine sr <| fd R R fo23_1 R <| ld R R sh3 <| av R R <| ak R <| qz <| qw (env' := [(5, _), (4, _)]) (.o2 R (.nil _)) <| qq <| vq <| qy ?_
  cases h
  exact QR.f2 R R (.t R) (.t R) (.id _)
 ·refine qK <| qq <| qX <| qX ?_
  refine W.jn1 (Γ := Unit) (fun (_ : Unit) (x20 : Bool) => [(1, SlcA kInt a1), (2, PtrA [iA a0.fVar, iA a0.fAdd]), (20, bA x20)]) (fun (_ : Unit) (_ : Bool) => []) h (fun _ x20 h => ?_) (fun j103 Kj103 h => ?_)
  ·refine qq ?_
   refine qZ h R (fun hb104 h => ?_) (fun hb104 h => ?_)
   ·refine sr <| ak R <| ak R <| nt <| vq <| qy ?_
    cases h
    exact QR.f2 R R (.t R) (.t R) (.id _)
   ·refine qK <| qq <| qX <| W.drawK [(0, false), (1, false), (2, false), (3, false), (4, false), (5, false), (6, false), (7, false), (8, false), (9, false)] [] (bm [0, 0, 2, 7, 15, 0, 32, 127, 255, 511]) mx (by kernel_rfl) <| dm R R R <| df R R R fo23_0 R <| dl R R R sh3 ?_
    obtain ⟨c109, h⟩ := qV h
    refine qx R R (.p R (.s 21 R (.s 23 R .nil)) R (vX R el26 R c109.1 c109.2)) <| dl R R R sh3 <| df R R R fo23_1 R <| dl R R R sh3 ?_
    obtain ⟨c110, h⟩ := qV h
    refine qx R R (.p R (.s 25 R (.s 27 R .nil)) R (vV R c110)) <| qx R R (.p R (.s 28 R .nil) R (q_assign R)) <| qx R R (.p R (.k .nil) R (q_assign R)) <| DK.nil <| CSteps.nil <| qw (env' := [(5, _), (4, _)]) (.o2 R (.nil _)) <| qq <| vq ?_
    cases h
    exact QR.f2 R R (.t R) (.t R) (.id _)
  ·refine qJ <| fd R R fo23_0 R <| ld R R sh3 <| pk R 12 R (qB R R) <| mv R R ?_
   rcases bif_s h with ⟨hb111, h⟩ | ⟨hb111, h⟩
   ·refine sk R R R hb111 <| sk R R R hb111 <| sk R R R hb111 <| sk R R R hb111 <| sk R R R hb111 <| pk R 14 R (vz R hb111) <| qz ?_
    exact qw (.o2 R (.one R (.nil _))) (Kj103 () true h)
   ·refine wf R R R hb111 R R fo23_0 R <| wl R R R hb111 R R sh3 <| wm R R R hb111 R R <| wq R R R hb111 (.s 17 R .nil) (vB R elS26).o <| wq R R R hb111 (.s 16 R (.s 18 R .nil)) (qB R R).o <| p2 R 14 R 19 R (vw R hb111) <| qz ?_
    exact qw (.o2 R (.one R (.nil _))) (Kj103 () (decide (a0.fVar ≥ (a1.length : Int))) h)
theorem ref03_Holds.con (k : Nat) (a0 : Test) (a1 : (List Int)) (r : Bool) (h : ref03_Holds k a0 a1 = some r) : Con Tryz.prog 124 [] [AggA [iA a0.fKind, iA a0.fLeft.fVar, iA a0.fLeft.fAdd, iA a0.fRight.fVar, iA a0.fRight.fAdd], SlcA kInt a1] (RA (bA r)) := by
 unfold ref03_Holds at h
 refine vZ (N := 47) Tryz.func124 R R R fun w0_ fg_ => sr <| p1 R 0 R (bx R (qj _)) <| ak R <| nx <| fd R R fo86_1 R <| lS R R sh23 R R <| mv R R ?_
 obtain ⟨t100, ht100, h⟩ := vx h
 refine p2 R 11 R 12 R (vQ (f := 169) (A := TupA [iA t100.1, bA t100.2]) (xs := [.tmp 11, .tmp 12]) («as» := [AggA [iA a0.fLeft.fVar, iA a0.fLeft.fAdd], SlcA kInt a1]) R ca169 (ref03_value.con k a0.fLeft a1 t100 ht100) R) <| mv R R <| p1 R 9 R (vK R R) <| p1 R 9 R (vK R R) <| av R R <| av R R <| qz <| qw (env' := [(6, _), (5, _), (2, _), (1, _)]) (.o4 R (.nil _)) <| qq <| sr <| fd R R fo86_2 R <| lS R R sh23 R R ?_
 refine mv R R ?_
 obtain ⟨t101, ht101, h⟩ := vx h
 refine p2 R 18 R 19 R (vQ (f := 169) (A := TupA [iA t101.1, bA t101.2]) (xs := [.tmp 18, .tmp 19]) («as» := [AggA [iA a0.fRight.fVar, iA a0.fRight.fAdd], SlcA kInt a1]) R ca169 (ref03_value.con k a0.fRight a1 t101 ht101) R) <| mv R R <| p1 R 16 R (vK R R) <| p1 R 16 R (vK R R) <| av R R <| av R R <| qz <| qw (env' := [(8, _), (7, _), (6, _), (5, _), (2, _)]) (.o4 R (.one R (.nil _))) <| qq <| qX <| qX ?_
 refine W.jn1 (Γ := Unit) (fun (_ : Unit) (x28 : Bool) => [(2, PtrA [iA a0.fKind, iA a0.fLeft.fVar, iA a0.fLeft.fAdd, iA a0.fRight.fVar, iA a0.fRight.fAdd]), (5, iA t100.1), (7, iA t101.1), (28, bA x28)]) (fun (_ : Unit) (_ : Bool) => []) h (fun _ x28 h => ?_) (fun j104 Kj104 h => ?_)
 ·refine qq ?_
  refine qZ h R (fun hb105 h => ?_) (fun hb105 h => ?_)
  ·refine sr <| ak R <| nt <| vq <| qy ?_
   cases h
   exact vW R R (.t R) (.id _)
  ·refine qK <| qq <| qX ?_
   refine W.jn1 (Γ := Unit) (fun (_ : Unit) (x4 : Bool) => [(4, bA x4)]) (fun (_ : Unit) (_ : Bool) => []) h (fun _ x4 h => ?_) (fun j111 Kj111 h => ?_)
   ·refine qq <| vq ?_
    cases h
    exact vW R R (.t R) (.id _)
   ·refine qJ <| fd R R fo86_0 R <| ld R R sh3 <| pk R 30 R (qB R R) <| mv R R ?_
    rcases bif_s h with ⟨hb112, h⟩ | ⟨hb112, h⟩
    ·refine wm R R R hb112 R R <| wm R R R hb112 R R <| wq R R R hb112 (.s 33 R (.s 34 R .nil)) (qB R R).o <| p2 R 32 R 35 R (vz R hb112) <| mv R R ?_
     rcases bif_s h with ⟨hb113, h⟩ | ⟨hb113, h⟩
     ·refine sk R R R hb113 <| sk R R R hb113 <| sk R R R hb113 <| sk R R R hb113 <| su R R R <| su R R R <| su R R R <| sk R R R hb113 <| pk R 37 R (vz R hb113) <| av R R <| qz ?_
      exact qw (.one R (.nil _)) (Kj111 () true h)
     ·refine wf R R R hb113 R R fo86_0 R <| wl R R R hb113 R R sh3 <| wq R R R hb113 (.s 39 R (.k .nil)) (qB R R).o <| wm R R R hb113 R R ?_
      rcases bif_s h with ⟨hb114, h⟩ | ⟨hb114, h⟩
      ·refine wm R R R hb114 R R <| wm R R R hb114 R R <| wq R R R hb114 (.s 42 R (.s 43 R .nil)) (qB R R).o <| wq R R R hb113 (.s 41 R (.s 44 R .nil)) (vz R hb114).o <| p2 R 37 R 45 R (vw R hb113) <| av R R <| qz ?_
       exact qw (.one R (.nil _)) (Kj111 () (t100.1 == t101.1) h)
      ·refine sk R R R hb114 <| sk R R R hb114 <| sk R R R hb114 <| wq R R R hb113 (.s 41 R (.k .nil)) (vw R hb114).o <| p2 R 37 R 45 R (vw R hb113) <| av R R <| qz ?_
       exact qw (.one R (.nil _)) (Kj111 () false h)
    ·refine sk R R R hb112 <| sk R R R hb112 <| sk R R R hb112 <| pk R 32 R (vw R hb112) <| mv R R <| wf R R R R R R fo86_0 R <| wl R R R R R R sh3 <| wq R R R R (.s 39 R (.k .nil)) (qB R R).o <| wm R R R R R R ?_
     rcases bif_s h with ⟨hb115, h⟩ | ⟨hb115, h⟩
     ·refine wm R R R hb115 R R <| wm R R R hb115 R R <| wq R R R hb115 (.s 42 R (.s 43 R .nil)) (qB R R).o <| wq R R R R (.s 41 R (.s 44 R .nil)) (vz R hb115).o <| p2 R 37 R 45 R (vw R R) <| av R R <| qz ?_
      exact qw (.one R (.nil _)) (Kj111 () (t100.1 == t101.1) h)
     ·refine sk R R R hb115 <| sk R R R hb115 <| sk R R R hb115 <| wq R R R R (.s 41 R (.k .nil)) (vw R hb115).o <| p2 R 37 R 45 R (vw R R) <| av R R <| qz ?_
      exact qw (.one R (.nil _)) (Kj111 () false h)
 ·refine qJ <| mv R R <| p1 R 23 R (q_not R) <| mv R R ?_
  rcases bif_s h with ⟨hb116, h⟩ | ⟨hb116, h⟩
  ·refine sk R R R hb116 <| sk R R R hb116 <| pk R 25 R (vz R hb116) <| qz ?_
   exact qw (.o4 R (.nil _)) (Kj104 () true h)
  ·refine wm R R R hb116 R R <| wq R R R hb116 (.s 26 R .nil) (q_not R).o <| p2 R 25 R 27 R (vw R hb116) <| qz ?_
   exact qw (.o4 R (.nil _)) (Kj104 () (!t101.2) h)
theorem ref21_Values.con (k : Nat) (a0 : Pattern) (a1 : Host) (a2 : Morphism) (r : ((List Int) × Int)) (h : ref21_Values k a0 a1 a2 = some r) : Con Tryz.prog 77 [] [AggA [SlcA kInt a0.fGraph.fNodes, SlcA kEdge a0.fGraph.fEdges, SlcA kSlot a0.fSlots, iA a0.fVars, SlcA kTest a0.fTests], AggA [SlcA kInt a1.fGraph.fNodes, SlcA kEdge a1.fGraph.fEdges, SlcA (kSl kInt) a1.fValues], AggA [SlcA kInt a2.fNodes, SlcA kInt a2.fEdges]] (RA (TupA [SlcA kInt r.1, iA r.2])) := by
 unfold ref21_Values at h
 refine vZ (N := 92) Tryz.func77 R R R fun w0_ fg_ => sr <| p1 R 0 R (bx R (qj _)) <| p1 R 1 R (bx R (qj _)) <| p1 R 2 R (bx R (qj _)) <| ak R <| ak R <| nx <| fd R R fo42_2 R ?_
 refine ld R R sh3 ?_
 obtain ⟨c100, h⟩ := qV h
 refine WL.w [] R (qQ R) R R (.s 16 R (.s 16 R .nil)) (w_make (kd := kInt) (z := (0 : Int)) R el26 R gr3 z3 R c100.1 c100.2) ?_
 rintro _ _ ⟨v101, rfl, rfl⟩
 refine av R R <| qz <| qw (env' := [(8, _), (5, _), (4, _), (3, _)]) (.o4 R (.nil _)) <| qq <| sr <| fd R R fo42_2 R <| ld R R sh3 ?_
 obtain ⟨c102, h⟩ := qV h
 refine WL.w [] R (qQ R) R R (.s 19 R (.s 19 R .nil)) (w_make (kd := kBool) (z := false) R el111 R gr4 z4 R c102.1 c102.2) ?_
 rintro _ _ ⟨v103, rfl, rfl⟩
 refine av R R <| nt <| qX <| sr <| ak R <| nt <| vy <| W.order [1, 0] R ?_
 refine W.loop3 (Γ := Unit) (fun (_ : Unit) (_ : (List Int)) (_ : (List Bool)) (x10 : Int) => [(3, PtrA [SlcA kInt a0.fGraph.fNodes, SlcA kEdge a0.fGraph.fEdges, SlcA kSlot a0.fSlots, iA a0.fVars, SlcA kTest a0.fTests]), (4, PtrA [SlcA kInt a1.fGraph.fNodes, SlcA kEdge a1.fGraph.fEdges, SlcA (kSl kInt) a1.fValues]), (5, PtrA [SlcA kInt a2.fNodes, SlcA kInt a2.fEdges]), (8, HdA v101), (9, HdA v103), (10, iA x10)]) (fun (_ : Unit) (x8 : (List Int)) (x9 : (List Bool)) (_ : Int) => [SlE 3 v101 kInt x8, SlE 4 v103 kBool x9]) h () (.o4 R (.o2 R (.nil _))) R (fun rec0 K0 next0 _ x8 x9 x10 h => ?_)
 unfold ref21_Values.b0 at h
 refine qX <| sr <| mv R R <| fd R R fo42_1 R <| ld R R sh39 <| p1 R 23 R (vB R elS39) <| p2 R 21 R 24 R (qB R R) <| nt ?_
 refine qZ h R (fun hb196 h => ?_) (fun hb196 h => ?_)
 ·refine qK <| qq <| qX <| vy <| sr <| fd R R fo42_1 R <| ld R R sh39 <| mv R R ?_
  obtain ⟨c197, h⟩ := qV h
  refine p2 R 29 R 30 R (vX R el39 R c197.1 c197.2) <| lS R R sh113 R R <| WL.w [] R (qQ R) R R .nil (w_alloc R z113 (l := [iA 0, iA 0, iA 0, iA 0]) R) ?_
  rintro _ _ ⟨b198, rfl, rfl⟩
  refine WL.w0 [0] R (qQ R) R (.s 11 R (.s 32 R .nil)) (w_store (L := [iA ((rd a0.fSlots x10).fNode), iA ((rd a0.fSlots x10).fAttr), iA ((rd a0.fSlots x10).fTerm.fVar), iA ((rd a0.fSlots x10).fTerm.fAdd)]) R sh113 (qj _) R R (leB R) R) ?_
  rintro _ _ ⟨rfl, rfl⟩
  refine qz <| QN.to (StTo.still [0] 11 R R) <| qw (env' := [(11, _), (10, _), (9, _), (8, _), (5, _), (4, _), (3, _)]) (.o4 R (.o2 R (.one R (.nil _)))) <| qq <| qX <| W.drawK [(0, false), (1, false), (2, false), (3, false), (4, false), (5, false), (6, false), (7, false), (8, false), (9, false), (10, false), (11, false), (12, false), (13, false), (14, false)] [] (bm [0, 1, 0, 4, 0, 16, 60, 124, 255, 511, 0, 1024, 4095, 8191, 16383]) mx (by kernel_rfl) <| df R R R fo60_1 R <| dl R R R sh58 <| df R R R fo64_0 R <| dl R R R sh26 <| df R R R fo113_0 R <| dl R R R sh3 ?_
  obtain ⟨c205, h⟩ := qV h
  refine qx R R (.p R (.s 36 R (.s 38 R .nil)) R (vX R el26 R c205.1 c205.2)) <| dl R R R sh3 ?_
  obtain ⟨c206, h⟩ := qV h
  refine qx R R (.p R (.s 34 R (.s 40 R .nil)) R (vX R el58 R c206.1 c206.2)) <| dl R R R sh26 <| df R R R fo113_1 R <| dl R R R sh3 ?_
  obtain ⟨c207, h⟩ := qV h
  refine qx R R (.p R (.s 42 R (.s 44 R .nil)) R (vX R el26 R c207.1 c207.2)) <| dl R R R sh3 <| qx R R (.p R (.s 46 R .nil) R (q_assign R)) <| DK.nil <| CSteps.nil <| qw (env' := [(12, _), (11, _), (10, _), (9, _), (8, _), (5, _), (4, _), (3, _)]) (.o4 R (.o4 R (.nil _))) <| qq <| qX <| sr <| fd R R fo113_2 R <| fd R R fo23_0 R <| ld R R sh3 ?_
  refine av R R <| nt <| qX ?_
  refine W.jn1 (Γ := Unit) (fun (_ : Unit) (x58 : Bool) => [(3, PtrA [SlcA kInt a0.fGraph.fNodes, SlcA kEdge a0.fGraph.fEdges, SlcA kSlot a0.fSlots, iA a0.fVars, SlcA kTest a0.fTests]), (4, PtrA [SlcA kInt a1.fGraph.fNodes, SlcA kEdge a1.fGraph.fEdges, SlcA (kSl kInt) a1.fValues]), (5, PtrA [SlcA kInt a2.fNodes, SlcA kInt a2.fEdges]), (8, HdA v101), (9, HdA v103), (10, iA x10), (11, PtrA [iA ((rd a0.fSlots x10).fNode), iA ((rd a0.fSlots x10).fAttr), iA ((rd a0.fSlots x10).fTerm.fVar), iA ((rd a0.fSlots x10).fTerm.fAdd)]), (12, iA (rd (rd a1.fValues (rd a2.fNodes ((rd a0.fSlots x10).fNode))) ((rd a0.fSlots x10).fAttr))), (13, iA ((rd a0.fSlots x10).fTerm.fVar)), (58, bA x58)]) (fun (_ : Unit) (_ : Bool) => [SlE 3 v101 kInt x8, SlE 4 v103 kBool x9]) h (fun _ x58 h => ?_) (fun j211 Kj211 h => ?_)
  ·refine qq ?_
   refine W.jn2 (Γ := Unit) (fun (_ : Unit) (_ : (List Int)) (_ : (List Bool)) => [(3, PtrA [SlcA kInt a0.fGraph.fNodes, SlcA kEdge a0.fGraph.fEdges, SlcA kSlot a0.fSlots, iA a0.fVars, SlcA kTest a0.fTests]), (4, PtrA [SlcA kInt a1.fGraph.fNodes, SlcA kEdge a1.fGraph.fEdges, SlcA (kSl kInt) a1.fValues]), (5, PtrA [SlcA kInt a2.fNodes, SlcA kInt a2.fEdges]), (8, HdA v101), (9, HdA v103), (10, iA x10), (11, PtrA [iA ((rd a0.fSlots x10).fNode), iA ((rd a0.fSlots x10).fAttr), iA ((rd a0.fSlots x10).fTerm.fVar), iA ((rd a0.fSlots x10).fTerm.fAdd)]), (12, iA (rd (rd a1.fValues (rd a2.fNodes ((rd a0.fSlots x10).fNode))) ((rd a0.fSlots x10).fAttr)))]) (fun (_ : Unit) (x8' : (List Int)) (x9' : (List Bool)) => [SlE 3 v101 kInt x8', SlE 4 v103 kBool x9']) h (fun _ x8' x9' h => ?_) (fun j217 Kj217 h => ?_)
   ·refine qq <| sr <| fd R R fo113_2 R <| lS R R sh23 R R <| mv R R ?_
    obtain ⟨t218, ht218, h⟩ := vx h
    refine WL.q (qQ R) R R (.s 71 R (.s 72 R .nil)) (q_lend (f := 42) (A := iA t218) (xs := [.tmp 71, .tmp 72]) («as» := [AggA [iA ((rd a0.fSlots x10).fTerm.fVar), iA ((rd a0.fSlots x10).fTerm.fAdd)], HdA v101]) R ca42 (ref21_value.con k ((rd a0.fSlots x10).fTerm) x8' t218 ht218) R (.cons (.id _) (.cons (.slc 0 R) .nil)) (Flat.eq _)) <| mv R R <| p2 R 73 R 74 R (qB R R) <| qz <| qw (env' := [(75, _), (10, _), (9, _), (8, _), (5, _), (4, _), (3, _)]) (.o4 R (.o2 R (.one R (.nil _)))) <| qq ?_
    refine qZ h R (fun hb219 h => ?_) (fun hb219 h => ?_)
    ·refine sr <| ak R <| ak R <| qz <| qw (env' := [(7, _), (6, _)]) (.o2 R (.nil _)) <| qq <| vq <| vj <| qy <| qy <| vj <| qy ?_
     cases h
     exact QR.f2 R R (.t R) (.t R) (.imp (Imp.tup (.cons (Imp.nil kInt) (.cons (Imp.id _) .nil))))
    ·refine qK <| vJ <| qq <| qJ <| mv R R ?_
     obtain ⟨c220, h⟩ := qV h
     refine pk R 26 R (vV R c220) <| av R R <| qz ?_
     exact next0 () x8' x9' (x10 + 1) _ h (.o4 R (.o2 R (.nil _)))
   ·refine qZ h R (fun hb221 h => ?_) (fun hb221 h => ?_)
    ·refine sr <| mv R R <| mv R R ?_
     obtain ⟨c222, h⟩ := qV h
     refine WL.q (qQ R) R R (.s 59 R (.s 60 R .nil)) (q_indexO R el111 (j := 1) R c222.1 c222.2) <| WL.w0 [1] R (qQ R) R (.s 61 R (.k .nil)) (w_storeEl (kd := kBool) (z := true) R sh4 (qW R) R R R c222.1 c222.2 R R) ?_
     rintro _ _ ⟨rfl, rfl⟩
     refine nt <| qJ <| mv R R <| mv R R <| mv R R <| fd R R fo113_2 R <| fd R R fo23_1 R <| ld R R sh3 ?_
     obtain ⟨c223, h⟩ := qV h
     refine p2 R 64 R 67 R (q_subR R c223) ?_
     obtain ⟨c224, h⟩ := qV h
     refine WL.q (qQ R) R R (.s 62 R (.s 63 R .nil)) (q_indexO R el26 (j := 1) R c224.1 c224.2) <| WL.w0 [1] R (qQ R) R (.s 69 R (.s 68 R .nil)) (w_storeEl (kd := kInt) (z := ((rd (rd a1.fValues (rd a2.fNodes ((rd a0.fSlots x10).fNode))) ((rd a0.fSlots x10).fAttr)) - (rd a0.fSlots x10).fTerm.fAdd)) R sh3 (qW R) R R R c224.1 c224.2 R R) ?_
     rintro _ _ ⟨rfl, rfl⟩
     refine qz ?_
     exact qw (.o4 R (.o4 R (.nil _))) (Kj217 () (x8.set ((rd a0.fSlots x10).fTerm.fVar : Int).toNat ((rd (rd a1.fValues (rd a2.fNodes ((rd a0.fSlots x10).fNode))) ((rd a0.fSlots x10).fAttr)) - (rd a0.fSlots x10).fTerm.fAdd)) (x9.set ((rd a0.fSlots x10).fTerm.fVar : Int).toNat true) h)
    ·refine qK ?_
     exact qw (.o4 R (.o4 R (.nil _))) (Kj217 () x8 x9 h)
  ·refine qJ <| mv R R <| pk R 50 R (qB R R) <| mv R R ?_
   rcases bif_s h with ⟨hb225, h⟩ | ⟨hb225, h⟩
   ·refine wm R R R hb225 R R <| wm R R R hb225 R R ?_
    obtain ⟨c226, h⟩ := qV h
    refine wq R R R hb225 (.s 53 R (.s 54 R .nil)) (q_indexO R el111 (j := 1) R c226.1 c226.2) <| wq R R R hb225 (.s 55 R .nil) (q_loadEl R sh4 (j := 1) R R c226.1 c226.2 R) <| wq R R R hb225 (.s 56 R .nil) (q_not R).o <| p2 R 52 R 57 R (vz R hb225) <| qz ?_
    exact qw (.o4 R (.o4 R (.o2 R (.nil _)))) (Kj211 () (!(rd x9 ((rd a0.fSlots x10).fTerm.fVar))) h)
   ·refine sk R R R hb225 <| sk R R R hb225 <| sk R R R hb225 <| sk R R R hb225 <| sk R R R hb225 <| pk R 52 R (vw R hb225) <| qz ?_
    exact qw (.o4 R (.o4 R (.o2 R (.nil _)))) (Kj211 () false h)
 ·refine bz <| qN <| qN <| bq <| qw (env' := [(8, _), (3, _)]) (.o2 R (.nil _)) <| qq <| qX <| sr <| ak R <| nt <| vy ?_
  refine W.drop [1] R ?_
  refine W.loop1 (Γ := Unit) (fun (_ : Unit) (x14 : Int) => [(3, PtrA [SlcA kInt a0.fGraph.fNodes, SlcA kEdge a0.fGraph.fEdges, SlcA kSlot a0.fSlots, iA a0.fVars, SlcA kTest a0.fTests]), (8, HdA v101), (14, iA x14)]) (fun (_ : Unit) (_ : Int) => [SlE 3 v101 kInt x8]) h () (.o2 R (.one R (.nil _))) R (fun rec1 K1 next1 _ x14 h => ?_)
  unfold ref21_Values.b1 at h
  refine qX <| sr <| mv R R <| fd R R fo42_3 R <| ld R R sh40 <| p1 R 78 R (vB R elS40) <| p2 R 76 R 79 R (qB R R) <| nt ?_
  refine qZ h R (fun hb237 h => ?_) (fun hb237 h => ?_)
  ·refine qK <| qq <| qX <| vy <| sr <| fd R R fo42_3 R <| ld R R sh40 <| mv R R ?_
   obtain ⟨c238, h⟩ := qV h
   refine p2 R 84 R 85 R (vX R el40 R c238.1 c238.2) <| lS R R sh86 R R <| mv R R ?_
   obtain ⟨t239, ht239, h⟩ := vx h
   refine WL.q (qQ R) R R (.s 87 R (.s 88 R .nil)) (q_lend (f := 124) (A := bA t239) (xs := [.tmp 87, .tmp 88]) («as» := [AggA [iA ((rd a0.fTests x14).fKind), iA ((rd a0.fTests x14).fLeft.fVar), iA ((rd a0.fTests x14).fLeft.fAdd), iA ((rd a0.fTests x14).fRight.fVar), iA ((rd a0.fTests x14).fRight.fAdd)], HdA v101]) R ca124 (ref03_Holds.con k (rd a0.fTests x14) x8 t239 ht239) R (.cons (.id _) (.cons (.slc 0 R) .nil)) (Flat.eq _)) <| p1 R 89 R (q_not R) <| qz <| qw (env' := [(90, _), (14, _), (8, _), (3, _)]) (.o4 R (.nil _)) <| qq ?_
   refine qZ h R (fun hb240 h => ?_) (fun hb240 h => ?_)
   ·refine sr <| ak R <| ak R <| nt <| vq <| vj <| qy <| qy <| vj <| qy ?_
    cases h
    exact QR.f2 R R (.t R) (.t R) (.imp (Imp.tup (.cons (Imp.nil kInt) (.cons (Imp.id _) .nil))))
   ·refine qK <| vJ <| qq <| qJ <| mv R R ?_
    obtain ⟨c241, h⟩ := qV h
    refine pk R 81 R (vV R c241) <| av R R <| qz ?_
    exact next1 () (x14 + 1) _ h (.o2 R (.one R (.nil _)))
  ·refine bz <| qN <| qN <| bq <| qw (env' := [(8, _)]) (.one R (.nil _)) <| qq <| sr <| mv R R <| av R R <| ak R <| nt ?_
   refine vq ?_
   cases h
   exact QR.f2 R R (.t R) (.t R) (.tup (.cons (.slc 0 R) (.cons (.id _) .nil)))
theorem ref21_Matches.con (k : Nat) (a0 : Types) (a1 : Pattern) (a2 : Host) (a3 : Bool) (r : ((List Match) × Int)) (h : ref21_Matches k a0 a1 a2 a3 = some r) : Con Tryz.prog 30 [] [AggA [SlcA kNodeType a0.fNodes, SlcA kEdgeType a0.fEdges], AggA [SlcA kInt a1.fGraph.fNodes, SlcA kEdge a1.fGraph.fEdges, SlcA kSlot a1.fSlots, iA a1.fVars, SlcA kTest a1.fTests], AggA [SlcA kInt a2.fGraph.fNodes, SlcA kEdge a2.fGraph.fEdges, SlcA (kSl kInt) a2.fValues], bA a3] (RA (TupA [SlcA kMatch r.1, iA r.2])) := by
 unfold ref21_Matches at h
 refine vZ (N := 65) Tryz.func30 R R R fun w0_ fg_ => sr <| p1 R 0 R (bx R (qj _)) <| p1 R 1 R (bx R (qj _)) <| p1 R 2 R (bx R (qj _)) <| ak R <| ak R <| nt <| qX <| sr ?_
 refine lS R R sh35 R R <| lS R R sh42 R R <| lS R R sh60 R R ?_
 obtain ⟨t100, ht100, h⟩ := vx h
 refine WL.p R R R (.s 17 R (.s 18 R (.s 19 R .nil))) (vQ (f := 75) (A := iA t100) (xs := [.tmp 17, .tmp 18, .tmp 19]) («as» := [AggA [SlcA kNodeType a0.fNodes, SlcA kEdgeType a0.fEdges], AggA [SlcA kInt a1.fGraph.fNodes, SlcA kEdge a1.fGraph.fEdges, SlcA kSlot a1.fSlots, iA a1.fVars, SlcA kTest a1.fTests], AggA [SlcA kInt a2.fGraph.fNodes, SlcA kEdge a2.fGraph.fEdges, SlcA (kSl kInt) a2.fValues]]) R ca75 (ref21_given.con k a0 a1 a2 t100 ht100) R) <| av R R <| qz <| qw (env' := [(10, _), (6, _), (5, _), (4, _), (3, _)]) (.o4 R (.one R (.nil _))) <| qq <| sr <| mv R R <| pk R 21 R (qB R R) <| nt ?_
 refine qZ h R (fun hb101 h => ?_) (fun hb101 h => ?_)
 ·refine sr <| mv R R <| ak R <| av R R <| qz <| qw (env' := [(9, _), (8, _)]) (.o2 R (.nil _)) <| qq <| vq <| qy ?_
  cases h
  exact QR.f2 R R (.t R) (.t R) (.imp (Imp.tup (.cons (Imp.nil kMatch) (.cons (Imp.id _) .nil))))
 ·refine qK <| qq <| sr <| lS R R sh35 R R <| fd R R fo42_0 R <| lS R R sh38 R R <| fd R R fo60_0 R <| lS R R sh38 R R <| mv R R ?_
  obtain ⟨t102, ht102, h⟩ := vx h
  refine WL.p R R R (.s 25 R (.s 27 R (.s 29 R (.s 30 R .nil)))) (vQ (f := 79) (A := TupA [SlcA kMorphism t102.1, iA t102.2]) (xs := [.tmp 25, .tmp 27, .tmp 29, .tmp 30]) («as» := [AggA [SlcA kNodeType a0.fNodes, SlcA kEdgeType a0.fEdges], AggA [SlcA kInt a1.fGraph.fNodes, SlcA kEdge a1.fGraph.fEdges], AggA [SlcA kInt a2.fGraph.fNodes, SlcA kEdge a2.fGraph.fEdges], bA a3]) R ca79 (ref17_All.con k a0 a1.fGraph a2.fGraph a3 t102 ht102) R) <| mv R R <| p1 R 24 R (vK R R) <| p1 R 24 R (vK R R) <| av R R <| av R R <| qz <| qw (env' := [(12, _), (11, _), (6, _), (5, _)]) (.o4 R (.nil _)) <| qq <| qX <| sr <| mv R R ?_
  refine pk R 34 R (qB R R) <| nt ?_
  refine qZ h R (fun hb103 h => ?_) (fun hb103 h => ?_)
  ·refine sr <| mv R R <| ak R <| av R R <| qz <| qw (env' := [(9, _), (8, _)]) (.o2 R (.nil _)) <| qq <| vq <| qy ?_
   cases h
   exact QR.f2 R R (.t R) (.t R) (.imp (Imp.tup (.cons (Imp.nil kMatch) (.cons (Imp.id _) .nil))))
  ·refine qK <| qq <| sr <| ak R <| nt <| qX <| sr <| ak R <| nt ?_
   refine vy <| W.to (StTo.newNil 76 kMatch) <| W.to (StTo.as 13 R Imp.nilHd) ?_
   refine W.loop2 (Γ := Value) (fun (g0 : Value) (_ : (List Match)) (x14 : Int) => [(5, PtrA [SlcA kInt a1.fGraph.fNodes, SlcA kEdge a1.fGraph.fEdges, SlcA kSlot a1.fSlots, iA a1.fVars, SlcA kTest a1.fTests]), (6, PtrA [SlcA kInt a2.fGraph.fNodes, SlcA kEdge a2.fGraph.fEdges, SlcA (kSl kInt) a2.fValues]), (11, SlcA kMorphism t102.1), (13, HdA g0), (14, iA x14)]) (fun (g0 : Value) (x13 : (List Match)) (_ : Int) => [SlE 76 g0 kMatch x13]) h (.slice none 0 0) (.o4 R (.one R (.nil _))) R (fun rec0 K0 next0 g0 x13 x14 h => ?_)
   unfold ref21_Matches.b0 at h
   refine qX <| sr <| mv R R <| mv R R <| p1 R 38 R (vB R elS133) <| p2 R 37 R 39 R (qB R R) <| nt ?_
   refine qZ h R (fun hb146 h => ?_) (fun hb146 h => ?_)
   ·refine qK <| qq <| qX <| vy <| qX <| W.drawK [(0, false), (1, false), (2, false), (3, false), (4, false), (5, false), (6, false), (7, false), (8, false), (9, false), (10, false), (11, false)] [] (bm [0, 0, 0, 0, 12, 28, 63, 127, 255, 255, 511, 2047]) mx (by kernel_rfl) <| qx R R (.p R (.s 5 R .nil) R (q_loadS R sh42 (leB R) R)) <| qx R R (.p R (.s 6 R .nil) R (q_loadS R sh60 (leB R) R)) <| dm R R R <| dm R R R ?_
    obtain ⟨c151, h⟩ := qV h
    refine qx R R (.p R (.s 46 R (.s 47 R .nil)) R (vX R el133 R c151.1 c151.2)) <| qx R R (.p R (.s 48 R .nil) R (q_loadS R sh64 (leB R) R)) ?_
    obtain ⟨t152, ht152, h⟩ := vx h
    refine qx R R (.p R (.s 44 R (.s 45 R (.s 49 R .nil))) R (vQ (f := 77) (A := TupA [SlcA kInt t152.1, iA t152.2]) (xs := [.tmp 44, .tmp 45, .tmp 49]) («as» := [AggA [SlcA kInt a1.fGraph.fNodes, SlcA kEdge a1.fGraph.fEdges, SlcA kSlot a1.fSlots, iA a1.fVars, SlcA kTest a1.fTests], AggA [SlcA kInt a2.fGraph.fNodes, SlcA kEdge a2.fGraph.fEdges, SlcA (kSl kInt) a2.fValues], AggA [SlcA kInt ((rd t102.1 x14).fNodes), SlcA kInt ((rd t102.1 x14).fEdges)]]) R ca77 (ref21_Values.con k a1 a2 (rd t102.1 x14) t152 ht152) R)) <| dm R R R <| qx R R (.p R (.s 43 R .nil) R (vK R R)) <| qx R R (.p R (.s 43 R .nil) R (vK R R)) <| qx R R (.p R (.s 51 R .nil) R (q_assign R)) <| qx R R (.p R (.s 52 R .nil) R (q_assign R)) <| DK.nil <| CSteps.nil <| qw (env' := [(16, _), (15, _), (14, _), (13, _), (11, _), (6, _), (5, _)]) (.o4 R (.o2 R (.one R (.nil _)))) <| qq <| sr <| mv R R ?_
    refine pk R 53 R (qB R R) <| nt ?_
    refine qZ h R (fun hb157 h => ?_) (fun hb157 h => ?_)
    ·refine qJ <| mv R R <| mv R R <| mv R R ?_
     obtain ⟨c158, h⟩ := qV h
     refine p2 R 56 R 57 R (vX R el133 R c158.1 c158.2) <| lS R R sh64 R R <| mv R R <| p2 R 59 R 60 R (q_build (is := [0, 1]) (xs := [.tmp 59, .tmp 60]) (L := [SlcA kInt ((rd t102.1 x14).fNodes), SlcA kInt ((rd t102.1 x14).fEdges), SlcA kInt t152.1]) R R z76 pl76 R R (.cons (qj _) (.cons (qW R) .nil)) R) <| p1 R 61 R (q_lit (kd := kMatch) (ps := [(0, .tmp 61)]) (xs := [.tmp 61]) («as» := [AggA [SlcA kInt ((rd t102.1 x14).fNodes), SlcA kInt ((rd t102.1 x14).fEdges), SlcA kInt t152.1]]) (ys := [(Match.mk (rd t102.1 x14) t152.1)]) R R el71 R gr76 R R R (.cons (qj _) .nil)) ?_
     obtain ⟨c159, h⟩ := qV h
     refine WL.w [0] R (qQ R) R R (.s 55 R (.s 62 R .nil)) (w_append (kd := kMatch) R el71 R gr76 c159) ?_
     rintro _ _ ⟨v160, rfl, rfl⟩
     refine av R R <| qz <| vJ <| qw (env' := [(13, _), (14, _), (11, _), (6, _), (5, _)]) (.o4 R (.one R (.nil _))) <| qq <| qJ <| mv R R ?_
     obtain ⟨c161, h⟩ := qV h
     refine pk R 41 R (vV R c161) <| av R R <| qz ?_
     exact next0 v160 (x13 ++ [(Match.mk (rd t102.1 x14) t152.1)]) (x14 + 1) _ h (.o4 R (.one R (.nil _)))
    ·refine qK <| vJ <| qq <| qJ <| mv R R ?_
     obtain ⟨c162, h⟩ := qV h
     refine pk R 41 R (vV R c162) <| av R R <| qz ?_
     exact next0 g0 x13 (x14 + 1) _ h (.o4 R (.one R (.nil _)))
   ·refine bz <| qN <| qN <| bq <| qw (env' := [(13, _)]) (.one R (.nil _)) <| qq <| sr <| mv R R <| av R R <| ak R <| nt ?_
    refine vq ?_
    cases h
    exact QR.f2 R R (.t R) (.t R) (.tup (.cons (.slc 0 R) (.cons (.id _) .nil)))
theorem search_shape.con (k : Nat) (a0 : Types) (a1 : Graph) (a2 : Graph) (a3 : Morphism) (r : Int) (h : search_shape k a0 a1 a2 a3 = some r) : Con Tryz.prog 120 [] [AggA [SlcA kNodeType a0.fNodes, SlcA kEdgeType a0.fEdges], AggA [SlcA kInt a1.fNodes, SlcA kEdge a1.fEdges], AggA [SlcA kInt a2.fNodes, SlcA kEdge a2.fEdges], AggA [SlcA kInt a3.fNodes, SlcA kInt a3.fEdges]] (RA (iA r)) := by
 unfold search_shape at h
 refine vZ (N := 121) Tryz.func120 R R R fun w0_ fg_ => sr <| p1 R 0 R (bx R (qj _)) <| p1 R 1 R (bx R (qj _)) <| p1 R 2 R (bx R (qj _)) <| p1 R 3 R (bx R (qj _)) <| ak R <| nt <| qX <| qX ?_
 refine W.jn1 (Γ := Unit) (fun (_ : Unit) (x31 : Bool) => [(4, PtrA [SlcA kNodeType a0.fNodes, SlcA kEdgeType a0.fEdges]), (5, PtrA [SlcA kInt a1.fNodes, SlcA kEdge a1.fEdges]), (6, PtrA [SlcA kInt a2.fNodes, SlcA kEdge a2.fEdges]), (7, PtrA [SlcA kInt a3.fNodes, SlcA kInt a3.fEdges]), (31, bA x31)]) (fun (_ : Unit) (_ : Bool) => []) h (fun _ x31 h => ?_) (fun j102 Kj102 h => ?_)
 ·refine qq ?_
  refine qZ h R (fun hb103 h => ?_) (fun hb103 h => ?_)
  ·refine sr <| ak R <| nt <| vq <| qy ?_
   cases h
   exact vW R R (.t R) (.id _)
  ·refine qK <| qq <| sr <| lS R R sh35 R R ?_
   obtain ⟨t104, ht104, h⟩ := vx h
   refine p1 R 32 R (vQ (f := 159) (A := SlcA (kSl kBool) t104) (xs := [.tmp 32]) («as» := [AggA [SlcA kNodeType a0.fNodes, SlcA kEdgeType a0.fEdges]]) R ca159 (search_below.con k a0 t104 ht104) R) <| av R R <| nt <| qX <| sr <| fd R R fo64_0 R <| ld R R sh26 <| p1 R 35 R (vB R elS26) <| mk_ R <| nt ?_
   refine vy ?_
   refine W.loop1 (Γ := Unit) (fun (_ : Unit) (x37 : Int) => [(5, PtrA [SlcA kInt a1.fNodes, SlcA kEdge a1.fEdges]), (6, PtrA [SlcA kInt a2.fNodes, SlcA kEdge a2.fEdges]), (7, PtrA [SlcA kInt a3.fNodes, SlcA kInt a3.fEdges]), (9, SlcA (kSl kBool) t104), (35, SlcA kInt a3.fNodes), (36, iA (a3.fNodes.length : Int)), (37, iA x37)]) (fun (_ : Unit) (_ : Int) => []) h () (.o4 R (.o2 R (.one R (.nil _)))) R (fun rec0 K0 next0 _ x37 h => ?_)
   unfold search_shape.b0 at h
   refine sr <| p2 R 37 R 36 R (qB R R) <| nt <| qX ?_
   refine qZ h R (fun hb357 h => ?_) (fun hb357 h => ?_)
   ·refine qK <| qq <| qX <| vy <| sr <| mv R R ?_
    obtain ⟨c358, h⟩ := qV h
    refine p2 R 35 R 37 R (vX R el26 R c358.1 c358.2) <| ld R R sh3 <| av R R <| av R R <| nt <| qX <| qX ?_
    refine W.jn1 (Γ := Unit) (fun (_ : Unit) (x50 : Bool) => [(5, PtrA [SlcA kInt a1.fNodes, SlcA kEdge a1.fEdges]), (6, PtrA [SlcA kInt a2.fNodes, SlcA kEdge a2.fEdges]), (7, PtrA [SlcA kInt a3.fNodes, SlcA kInt a3.fEdges]), (9, SlcA (kSl kBool) t104), (35, SlcA kInt a3.fNodes), (36, iA (a3.fNodes.length : Int)), (37, iA x37), (10, iA x37), (11, iA (rd a3.fNodes x37)), (50, bA x50)]) (fun (_ : Unit) (_ : Bool) => []) h (fun _ x50 h => ?_) (fun j361 Kj361 h => ?_)
    ·refine qq ?_
     refine qZ h R (fun hb362 h => ?_) (fun hb362 h => ?_)
     ·refine sr <| ak R <| qz <| qw (env' := [(8, _)]) (.one R (.nil _)) <| qq <| vq <| qy <| vj <| qy <| qy <| vj <| qy ?_
      cases h
      exact vW R R (.t R) (.id _)
     ·refine qK <| qq <| qX <| W.drawK [(0, false), (1, false), (2, false), (3, false), (4, false), (5, false), (6, false), (7, false), (8, false), (9, false), (10, false), (11, false), (12, false), (13, false), (14, false), (15, false)] [] (bm [0, 0, 2, 0, 14, 30, 63, 127, 0, 256, 0, 1792, 3840, 8191, 16383, 32767]) mx (by kernel_rfl) <| dm R R R <| df R R R fo38_0 R <| dl R R R sh26 <| dm R R R ?_
      obtain ⟨c371, h⟩ := qV h
      refine qx R R (.p R (.s 53 R (.s 54 R .nil)) R (vX R el26 R c371.1 c371.2)) <| dl R R R sh3 ?_
      obtain ⟨c372, h⟩ := qV h
      refine qx R R (.p R (.s 51 R (.s 56 R .nil)) R (vX R el200 R c372.1 c372.2)) <| dl R R R sh111 <| df R R R fo38_0 R <| dl R R R sh26 <| dm R R R ?_
      obtain ⟨c373, h⟩ := qV h
      refine qx R R (.p R (.s 60 R (.s 61 R .nil)) R (vX R el26 R c373.1 c373.2)) <| dl R R R sh3 ?_
      obtain ⟨c374, h⟩ := qV h
      refine qx R R (.p R (.s 58 R (.s 63 R .nil)) R (vX R el111 R c374.1 c374.2)) <| dl R R R sh4 <| qx R R (.p R (.s 65 R .nil) R (q_not R)) <| DK.nil <| CSteps.nil <| qw (env' := [(66, _), (37, _), (36, _), (35, _), (9, _), (7, _), (6, _), (5, _)]) (.o4 R (.o4 R (.nil _))) <| qq ?_
      refine qZ h R (fun hb375 h => ?_) (fun hb375 h => ?_)
      ·refine sr <| ak R <| qz <| qw (env' := [(8, _)]) (.one R (.nil _)) <| qq <| vq <| vj <| qy <| qy <| vj <| qy ?_
       cases h
       exact vW R R (.t R) (.id _)
      ·refine qK <| vJ <| qq <| qJ ?_
       obtain ⟨c376, h⟩ := qV h
       refine pk R 37 R (vV R c376) <| mv R R <| qz ?_
       exact next0 () (x37 + 1) _ h (.o4 R (.o2 R (.one R (.nil _))))
    ·refine qJ <| mv R R <| pk R 42 R (qB R R) <| mv R R ?_
     rcases bif_s h with ⟨hb377, h⟩ | ⟨hb377, h⟩
     ·refine sk R R R hb377 <| sk R R R hb377 <| sk R R R hb377 <| sk R R R hb377 <| sk R R R hb377 <| pk R 44 R (vz R hb377) <| qz ?_
      exact qw (.o4 R (.o4 R (.o2 R (.nil _)))) (Kj361 () true h)
     ·refine wm R R R hb377 R R <| wf R R R hb377 R R fo38_0 R <| wl R R R hb377 R R sh26 <| wq R R R hb377 (.s 47 R .nil) (vB R elS26).o <| wq R R R hb377 (.s 45 R (.s 48 R .nil)) (qB R R).o <| p2 R 44 R 49 R (vw R hb377) <| qz ?_
      exact qw (.o4 R (.o4 R (.o2 R (.nil _)))) (Kj361 () (decide ((rd a3.fNodes x37) ≥ (a2.fNodes.length : Int))) h)
   ·refine bz <| qN <| qN <| bq <| qq <| qX <| sr <| fd R R fo64_1 R <| ld R R sh26 <| p1 R 69 R (vB R elS26) <| mk_ R <| qz ?_
    refine qq <| vy ?_
    refine W.loop1 (Γ := Unit) (fun (_ : Unit) (x71 : Int) => [(5, PtrA [SlcA kInt a1.fNodes, SlcA kEdge a1.fEdges]), (6, PtrA [SlcA kInt a2.fNodes, SlcA kEdge a2.fEdges]), (7, PtrA [SlcA kInt a3.fNodes, SlcA kInt a3.fEdges]), (69, SlcA kInt a3.fEdges), (70, iA (a3.fEdges.length : Int)), (71, iA x71)]) (fun (_ : Unit) (_ : Int) => []) h () (.o4 R (.o2 R (.nil _))) R (fun rec1 K1 next1 _ x71 h => ?_)
    unfold search_shape.b1 at h
    refine sr <| p2 R 71 R 70 R (qB R R) <| nt <| qX ?_
    refine qZ h R (fun hb448 h => ?_) (fun hb448 h => ?_)
    ·refine qK <| qq <| qX <| vy <| sr <| mv R R ?_
     obtain ⟨c449, h⟩ := qV h
     refine p2 R 69 R 71 R (vX R el26 R c449.1 c449.2) <| ld R R sh3 <| av R R <| av R R <| nt <| qX <| qX ?_
     refine W.jn1 (Γ := Unit) (fun (_ : Unit) (x84 : Bool) => [(5, PtrA [SlcA kInt a1.fNodes, SlcA kEdge a1.fEdges]), (6, PtrA [SlcA kInt a2.fNodes, SlcA kEdge a2.fEdges]), (7, PtrA [SlcA kInt a3.fNodes, SlcA kInt a3.fEdges]), (69, SlcA kInt a3.fEdges), (70, iA (a3.fEdges.length : Int)), (71, iA x71), (12, iA x71), (13, iA (rd a3.fEdges x71)), (84, bA x84)]) (fun (_ : Unit) (_ : Bool) => []) h (fun _ x84 h => ?_) (fun j452 Kj452 h => ?_)
     ·refine qq ?_
      refine qZ h R (fun hb453 h => ?_) (fun hb453 h => ?_)
      ·refine sr <| ak R <| qz <| qw (env' := [(8, _)]) (.one R (.nil _)) <| qq <| vq <| qy <| vj <| qy <| qy <| vj <| qy ?_
       cases h
       exact vW R R (.t R) (.id _)
      ·refine qK <| qq <| qX ?_
       refine W.jn0 (Γ := Unit) (fun (_ : Unit) => [(5, PtrA [SlcA kInt a1.fNodes, SlcA kEdge a1.fEdges]), (6, PtrA [SlcA kInt a2.fNodes, SlcA kEdge a2.fEdges]), (7, PtrA [SlcA kInt a3.fNodes, SlcA kInt a3.fEdges]), (69, SlcA kInt a3.fEdges), (70, iA (a3.fEdges.length : Int)), (71, iA x71), (14, PtrA [iA ((rd a1.fEdges x71).fType), iA ((rd a1.fEdges x71).fFrom), iA ((rd a1.fEdges x71).fTo)]), (15, PtrA [iA ((rd a2.fEdges (rd a3.fEdges x71)).fType), iA ((rd a2.fEdges (rd a3.fEdges x71)).fFrom), iA ((rd a2.fEdges (rd a3.fEdges x71)).fTo)])]) (fun (_ : Unit) => []) h (fun _ h => ?_) (fun j463 Kj463 h => ?_)
       ·refine qq <| qX <| sr <| fd R R fo109_0 R <| ld R R sh3 <| fd R R fo109_0 R <| ld R R sh3 <| p2 R 96 R 98 R (qB R R) <| nt ?_
        refine qZ h R (fun hb464 h => ?_) (fun hb464 h => ?_)
        ·refine sr <| ak R <| qz <| qw (env' := [(8, _)]) (.one R (.nil _)) <| qq <| vq <| qy <| vj <| qy <| qy <| vj <| qy ?_
         cases h
         exact vW R R (.t R) (.id _)
        ·refine qK <| qq <| qX ?_
         refine W.jn1 (Γ := Unit) (fun (_ : Unit) (x119 : Bool) => [(5, PtrA [SlcA kInt a1.fNodes, SlcA kEdge a1.fEdges]), (6, PtrA [SlcA kInt a2.fNodes, SlcA kEdge a2.fEdges]), (7, PtrA [SlcA kInt a3.fNodes, SlcA kInt a3.fEdges]), (69, SlcA kInt a3.fEdges), (70, iA (a3.fEdges.length : Int)), (71, iA x71), (119, bA x119)]) (fun (_ : Unit) (_ : Bool) => []) h (fun _ x119 h => ?_) (fun j472 Kj472 h => ?_)
         ·refine qq ?_
          refine qZ h R (fun hb473 h => ?_) (fun hb473 h => ?_)
          ·refine sr <| ak R <| qz <| qw (env' := [(8, _)]) (.one R (.nil _)) <| qq <| vq <| vj <| qy <| qy <| vj <| qy ?_
           cases h
           exact vW R R (.t R) (.id _)
          ·refine qK <| vJ <| qq <| qJ ?_
           obtain ⟨c474, h⟩ := qV h
           refine pk R 71 R (vV R c474) <| mv R R <| qz ?_
           exact next1 () (x71 + 1) _ h (.o4 R (.o2 R (.nil _)))
         ·refine W.drawK [(0, false), (1, false), (2, false), (3, false), (4, false), (5, false), (6, false), (7, false), (8, false), (9, false), (10, false), (11, false), (12, false), (13, false), (14, false), (15, false), (16, false), (17, false), (18, false), (19, false)] [] (bm [0, 1, 0, 4, 15, 31, 0, 64, 255, 511, 1023, 2047, 1023, 5119, 16383, 32767, 1023, 66559, 262143, 524287]) mx (by kernel_rfl) <| df R R R fo64_0 R <| dl R R R sh26 <| df R R R fo109_1 R <| dl R R R sh3 ?_
          obtain ⟨c475, h⟩ := qV h
          refine qx R R (.p R (.s 101 R (.s 103 R .nil)) R (vX R el26 R c475.1 c475.2)) <| dl R R R sh3 <| df R R R fo109_1 R <| dl R R R sh3 <| qx R R (.p R (.s 105 R (.s 107 R .nil)) R (qB R R)) <| dm R R R ?_
          rcases bif_s h with ⟨hb476, h⟩ | ⟨hb476, h⟩
          ·refine dx R R R hb476 <| dx R R R hb476 <| dx R R R hb476 <| dx R R R hb476 <| dx R R R hb476 <| dx R R R hb476 <| dx R R R hb476 <| dx R R R hb476 <| dx R R R hb476 <| qx R R (.p R (.s 109 R (.k .nil)) R (vz R hb476)) <| DK.nil <| CSteps.nil ?_
           exact qw (.o4 R (.o2 R (.one R (.nil _)))) (Kj472 () true h)
          ·refine qx R R (.gp R R R hb476 (.s 7 R .nil) R (q_field R fo64_0 R)) <| qx R R (.gp R R R hb476 (.s 110 R .nil) R (q_load R sh26)) <| qx R R (.gp R R R hb476 (.s 14 R .nil) R (q_field R fo109_2 R)) <| qx R R (.gp R R R hb476 (.s 112 R .nil) R (q_load R sh3)) ?_
           obtain ⟨c477, h⟩ := qV h
           refine qx R R (.gp R R R hb476 (.s 111 R (.s 113 R .nil)) R (vX R el26 R c477.1 c477.2)) <| qx R R (.gp R R R hb476 (.s 114 R .nil) R (q_load R sh3)) <| qx R R (.gp R R R hb476 (.s 15 R .nil) R (q_field R fo109_2 R)) <| qx R R (.gp R R R hb476 (.s 116 R .nil) R (q_load R sh3)) <| qx R R (.gp R R R hb476 (.s 115 R (.s 117 R .nil)) R (qB R R)) <| qx R R (.p R (.s 109 R (.s 118 R .nil)) R (vw R hb476)) <| DK.nil <| CSteps.nil ?_
           exact qw (.o4 R (.o2 R (.one R (.nil _)))) (Kj472 () ((rd a3.fNodes ((rd a1.fEdges x71).fTo)) != (rd a2.fEdges (rd a3.fEdges x71)).fTo) h)
       ·refine W.drawKT [(0, false), (1, false), (2, false), (3, false), (4, false), (5, false), (6, false), (7, false), (8, false), (9, false)] [10, 11, 12, 13] [10, 11] 4 [[], [0], [], [0, 1, 2], [0, 1, 2, 3], [], [5], [], [5, 6, 7], [5, 6, 7, 8], [], [], [0, 1, 2, 3, 4, 10, 11], [0, 1, 2, 3, 4, 5, 6, 7, 8, 9, 10, 11, 12]] mx (by kernel_rfl) <| DKT.cons R R (.p R (.s 5 R .nil) R (q_field R fo38_1 R)) <| DKT.cons R R (.p R (.s 85 R .nil) R (q_load R sh36)) <| DKT.cons R R (.p R (.s 12 R .nil) R (q_move R)) ?_
        obtain ⟨c478, h⟩ := qV h
        refine DKT.cons R R (.p R (.s 86 R (.s 87 R .nil)) R (vX R el36 R c478.1 c478.2)) <| DKT.cons R R (.p R (.s 88 R .nil) R (q_loadS R sh109 (leB R) R)) <| DKT.cons R R (.p R (.s 6 R .nil) R (q_field R fo38_1 R)) <| DKT.cons R R (.p R (.s 90 R .nil) R (q_load R sh36)) <| DKT.cons R R (.p R (.s 13 R .nil) R (q_move R)) ?_
        obtain ⟨c479, h⟩ := qV h
        refine DKT.cons R R (.p R (.s 91 R (.s 92 R .nil)) R (vX R el36 R c479.1 c479.2)) <| DKT.cons R R (.p R (.s 93 R .nil) R (q_loadS R sh109 (leB R) R)) <| DKT.nil <| CT.step ?_
        refine CTc.yes R ?_ ?_
        ·refine CStep1.w [] (fun _ => R) R R R R .nil R (w_alloc R z109 (l := [iA 0, iA 0, iA 0]) R) ?_
         rintro _ _ ⟨b480, rfl, rfl⟩
         refine CT.list (l' := [11, 12, 13]) R <| CT.step ?_
         refine CTc.yes R ?_ ?_
         ·refine CStep1.w [] (fun _ => R) R R R R .nil R (w_alloc R z109 (l := [iA 0, iA 0, iA 0]) R) ?_
          rintro _ _ ⟨b481, rfl, rfl⟩
          refine CT.list (l' := [12, 13]) R <| CT.step ?_
          refine CTc.yes R ?_ ?_
          ·refine CStep1.w0 [1] (fun h => absurd h (by decide)) R R R (.s 14 R (.s 89 R .nil)) R (w_store (L := [iA ((rd a1.fEdges x71).fType), iA ((rd a1.fEdges x71).fFrom), iA ((rd a1.fEdges x71).fTo)]) R sh109 (qj _) R R (leB R) R) ?_
           rintro _ _ ⟨rfl, rfl⟩
           refine CT.list (l' := [13]) R <| CT.step ?_
           refine CTc.yes R ?_ ?_
           ·refine CStep1.w0 [1] (fun h => absurd h (by decide)) R R R (.s 15 R (.s 94 R .nil)) R (w_store (L := [iA ((rd a2.fEdges (rd a3.fEdges x71)).fType), iA ((rd a2.fEdges (rd a3.fEdges x71)).fFrom), iA ((rd a2.fEdges (rd a3.fEdges x71)).fTo)]) R sh109 (qj _) R R (leB R) R) ?_
            rintro _ _ ⟨rfl, rfl⟩
            refine CT.list (l' := []) R <| CT.nil <| QN.to (StTo.still [1] 14 R R) <| QN.to (StTo.still [0] 15 R R) ?_
            exact qw (.o4 R (.o4 R (.nil _))) (Kj463 () h)
           exact CTc.end
          refine CTc.no R ?_
          exact CTc.end
         refine CTc.no R <| CTc.no R ?_
         exact CTc.end
        refine CTc.yes R ?_ ?_
        ·refine CStep1.w [] (fun _ => R) R R R R .nil R (w_alloc R z109 (l := [iA 0, iA 0, iA 0]) R) ?_
         rintro _ _ ⟨b481, rfl, rfl⟩
         refine CT.list (l' := [10, 12, 13]) R <| CT.step ?_
         refine CTc.yes R ?_ ?_
         ·refine CStep1.w [] (fun _ => R) R R R R .nil R (w_alloc R z109 (l := [iA 0, iA 0, iA 0]) R) ?_
          rintro _ _ ⟨b480, rfl, rfl⟩
          refine CT.list (l' := [12, 13]) R <| CT.step ?_
          refine CTc.yes R ?_ ?_
          ·refine CStep1.w0 [0] (fun h => absurd h (by decide)) R R R (.s 14 R (.s 89 R .nil)) R (w_store (L := [iA ((rd a1.fEdges x71).fType), iA ((rd a1.fEdges x71).fFrom), iA ((rd a1.fEdges x71).fTo)]) R sh109 (qj _) R R (leB R) R) ?_
           rintro _ _ ⟨rfl, rfl⟩
           refine CT.list (l' := [13]) R <| CT.step ?_
           refine CTc.yes R ?_ ?_
           ·refine CStep1.w0 [1] (fun h => absurd h (by decide)) R R R (.s 15 R (.s 94 R .nil)) R (w_store (L := [iA ((rd a2.fEdges (rd a3.fEdges x71)).fType), iA ((rd a2.fEdges (rd a3.fEdges x71)).fFrom), iA ((rd a2.fEdges (rd a3.fEdges x71)).fTo)]) R sh109 (qj _) R R (leB R) R) ?_
            rintro _ _ ⟨rfl, rfl⟩
            refine CT.list (l' := []) R <| CT.nil <| QN.to (StTo.still [1] 14 R R) <| QN.to (StTo.still [0] 15 R R) ?_
            exact qw (.o4 R (.o4 R (.nil _))) (Kj463 () h)
           exact CTc.end
          refine CTc.no R ?_
          exact CTc.end
         refine CTc.no R <| CTc.no R ?_
         exact CTc.end
        refine CTc.no R <| CTc.no R ?_
        exact CTc.end
     ·refine qJ <| mv R R <| pk R 76 R (qB R R) <| mv R R ?_
      rcases bif_s h with ⟨hb482, h⟩ | ⟨hb482, h⟩
      ·refine sk R R R hb482 <| sk R R R hb482 <| sk R R R hb482 <| sk R R R hb482 <| sk R R R hb482 <| pk R 78 R (vz R hb482) <| qz ?_
       exact qw (.o4 R (.o4 R (.one R (.nil _)))) (Kj452 () true h)
      ·refine wm R R R hb482 R R <| wf R R R hb482 R R fo38_1 R <| wl R R R hb482 R R sh36 <| wq R R R hb482 (.s 81 R .nil) (vB R elS36).o <| wq R R R hb482 (.s 79 R (.s 82 R .nil)) (qB R R).o <| p2 R 78 R 83 R (vw R hb482) <| qz ?_
       exact qw (.o4 R (.o4 R (.one R (.nil _)))) (Kj452 () (decide ((rd a3.fEdges x71) ≥ (a2.fEdges.length : Int))) h)
    ·refine bz <| qN <| qN <| bq <| qw (env' := []) (.nil _) <| qq <| sr <| ak R <| nt <| vq ?_
     cases h
     exact vW R R (.t R) (.id _)
 ·refine qJ <| fd R R fo64_0 R <| ld R R sh26 <| p1 R 17 R (vB R elS26) <| fd R R fo38_0 R <| ld R R sh26 <| p1 R 20 R (vB R elS26) <| p2 R 18 R 21 R (qB R R) <| mv R R ?_
  rcases bif_s h with ⟨hb483, h⟩ | ⟨hb483, h⟩
  ·refine sk R R R hb483 <| sk R R R hb483 <| sk R R R hb483 <| sk R R R hb483 <| sk R R R hb483 <| sk R R R hb483 <| sk R R R hb483 <| pk R 23 R (vz R hb483) <| qz ?_
   exact qw (.o4 R (.one R (.nil _))) (Kj102 () true h)
  ·refine wf R R R hb483 R R fo64_1 R <| wl R R R hb483 R R sh26 <| wq R R R hb483 (.s 25 R .nil) (vB R elS26).o <| wf R R R hb483 R R fo38_1 R <| wl R R R hb483 R R sh36 <| wq R R R hb483 (.s 28 R .nil) (vB R elS36).o <| wq R R R hb483 (.s 26 R (.s 29 R .nil)) (qB R R).o <| p2 R 23 R 30 R (vw R hb483) <| qz ?_
   exact qw (.o4 R (.one R (.nil _))) (Kj102 () ((a3.fEdges.length : Int) != (a1.fEdges.length : Int)) h)
theorem search_Check.con (k : Nat) (a0 : Types) (a1 : Graph) (a2 : Graph) (a3 : Morphism) (a4 : Bool) (r : Int) (h : search_Check k a0 a1 a2 a3 a4 = some r) : Con Tryz.prog 73 [] [AggA [SlcA kNodeType a0.fNodes, SlcA kEdgeType a0.fEdges], AggA [SlcA kInt a1.fNodes, SlcA kEdge a1.fEdges], AggA [SlcA kInt a2.fNodes, SlcA kEdge a2.fEdges], AggA [SlcA kInt a3.fNodes, SlcA kInt a3.fEdges], bA a4] (RA (iA r)) := by
 unfold search_Check at h
 refine vZ (N := 39) Tryz.func73 R R R fun w0_ fg_ => sr <| p1 R 0 R (bx R (qj _)) <| p1 R 1 R (bx R (qj _)) <| p1 R 2 R (bx R (qj _)) <| p1 R 3 R (bx R (qj _)) <| ak R <| nt <| qX <| sr ?_
 refine lS R R sh35 R R <| lS R R sh38 R R <| lS R R sh38 R R ?_
 obtain ⟨t100, ht100, h⟩ := vx h
 refine WL.p R R R (.s 13 R (.s 14 R (.s 15 R .nil))) (vQ (f := 119) (A := iA t100) (xs := [.tmp 13, .tmp 14, .tmp 15]) («as» := [AggA [SlcA kNodeType a0.fNodes, SlcA kEdgeType a0.fEdges], AggA [SlcA kInt a1.fNodes, SlcA kEdge a1.fEdges], AggA [SlcA kInt a2.fNodes, SlcA kEdge a2.fEdges]]) R ca119 (search_valid.con k a0 a1 a2 t100 ht100) R) <| av R R <| qz <| qw (env' := [(11, _), (8, _), (7, _), (6, _), (5, _), (4, _)]) (.o4 R (.o2 R (.nil _))) <| qq <| sr <| mv R R <| pk R 17 R (qB R R) <| nt ?_
 refine qZ h R (fun hb101 h => ?_) (fun hb101 h => ?_)
 ·refine sr <| mv R R <| av R R <| qz <| qw (env' := [(10, _)]) (.one R (.nil _)) <| qq <| vq <| qy ?_
  cases h
  exact vW R R (.t R) (.id _)
 ·refine qK <| qq <| qX <| sr <| lS R R sh35 R R <| lS R R sh38 R R <| lS R R sh38 R R <| lS R R sh64 R R ?_
  obtain ⟨t102, ht102, h⟩ := vx h
  refine WL.p R R R (.s 20 R (.s 21 R (.s 22 R (.s 23 R .nil)))) (vQ (f := 120) (A := iA t102) (xs := [.tmp 20, .tmp 21, .tmp 22, .tmp 23]) («as» := [AggA [SlcA kNodeType a0.fNodes, SlcA kEdgeType a0.fEdges], AggA [SlcA kInt a1.fNodes, SlcA kEdge a1.fEdges], AggA [SlcA kInt a2.fNodes, SlcA kEdge a2.fEdges], AggA [SlcA kInt a3.fNodes, SlcA kInt a3.fEdges]]) R ca120 (search_shape.con k a0 a1 a2 a3 t102 ht102) R) <| av R R <| qz <| qw (env' := [(12, _), (8, _), (4, _)]) (.o2 R (.one R (.nil _))) <| qq <| sr <| mv R R <| pk R 25 R (qB R R) <| nt ?_
  refine qZ h R (fun hb103 h => ?_) (fun hb103 h => ?_)
  ·refine sr <| mv R R <| av R R <| nt <| vq <| qy ?_
   cases h
   exact vW R R (.t R) (.id _)
  ·refine qK <| qq <| qX <| qX ?_
   refine W.jn1 (Γ := Unit) (fun (_ : Unit) (x38 : Bool) => [(38, bA x38)]) (fun (_ : Unit) (_ : Bool) => []) h (fun _ x38 h => ?_) (fun j109 Kj109 h => ?_)
   ·refine qq ?_
    refine qZ h R (fun hb110 h => ?_) (fun hb110 h => ?_)
    ·refine sr <| ak R <| nt <| vq <| qy ?_
     cases h
     exact vW R R (.t R) (.id _)
    ·refine qK <| qq <| sr <| ak R <| nt <| vq ?_
     cases h
     exact vW R R (.t R) (.id _)
   ·refine qJ <| mv R R <| mv R R ?_
    rcases bif_s h with ⟨hb111, h⟩ | ⟨hb111, h⟩
    ·refine wf R R R hb111 R R fo64_0 R <| wl R R R hb111 R R sh26 ?_
     obtain ⟨t112, ht112, h⟩ := vx h
     refine wq R R R hb111 (.s 31 R .nil) (vQ (f := 121) (A := bA t112) (xs := [.tmp 31]) («as» := [SlcA kInt a3.fNodes]) R ca121 (search_twice.con k a3.fNodes t112 ht112) R).o <| wm R R R hb111 R R ?_
     rcases bif_s h with ⟨hb113, h⟩ | ⟨hb113, h⟩
     ·refine sk R R R hb113 <| sk R R R hb113 <| sk R R R hb113 <| wq R R R hb111 (.s 33 R (.k .nil)) (vz R hb113).o <| p2 R 29 R 37 R (vz R hb111) <| qz ?_
      exact qw (.one R (.nil _)) (Kj109 () true h)
     ·refine wf R R R hb113 R R fo64_1 R <| wl R R R hb113 R R sh26 ?_
      obtain ⟨t114, ht114, h⟩ := vx h
      refine wq R R R hb113 (.s 35 R .nil) (vQ (f := 121) (A := bA t114) (xs := [.tmp 35]) («as» := [SlcA kInt a3.fEdges]) R ca121 (search_twice.con k a3.fEdges t114 ht114) R).o <| wq R R R hb111 (.s 33 R (.s 36 R .nil)) (vw R hb113).o <| p2 R 29 R 37 R (vz R hb111) <| qz ?_
      exact qw (.one R (.nil _)) (Kj109 () t114 h)
    ·refine sk R R R hb111 <| sk R R R hb111 <| sk R R R hb111 <| sk R R R hb111 <| su R R R <| su R R R <| su R R R <| sk R R R hb111 <| pk R 29 R (vw R hb111) <| qz ?_
     exact qw (.one R (.nil _)) (Kj109 () false h)
theorem attribute_Solve.con (k : Nat) (a0 : Types) (a1 : Pattern) (a2 : Host) (a3 : Morphism) (r : ((List Int) × Int)) (h : attribute_Solve k a0 a1 a2 a3 = some r) : Con Tryz.prog 25 [] [AggA [SlcA kNodeType a0.fNodes, SlcA kEdgeType a0.fEdges], AggA [SlcA kInt a1.fGraph.fNodes, SlcA kEdge a1.fGraph.fEdges, SlcA kSlot a1.fSlots, iA a1.fVars, SlcA kTest a1.fTests], AggA [SlcA kInt a2.fGraph.fNodes, SlcA kEdge a2.fGraph.fEdges, SlcA (kSl kInt) a2.fValues], AggA [SlcA kInt a3.fNodes, SlcA kInt a3.fEdges]] (RA (TupA [SlcA kInt r.1, iA r.2])) := by
 unfold attribute_Solve at h
 refine vZ (N := 35) Tryz.func25 R R R fun w0_ fg_ => sr <| p1 R 0 R (bx R (qj _)) <| p1 R 1 R (bx R (qj _)) <| p1 R 2 R (bx R (qj _)) <| p1 R 3 R (bx R (qj _)) <| ak R <| ak R <| nt <| qX <| qX ?_
 refine qJ <| lS R R sh35 R R <| lS R R sh42 R R <| lS R R sh60 R R ?_
 obtain ⟨t100, ht100, h⟩ := vx h
 refine WL.p R R R (.s 12 R (.s 13 R (.s 14 R .nil))) (vQ (f := 72) (A := iA t100) (xs := [.tmp 12, .tmp 13, .tmp 14]) («as» := [AggA [SlcA kNodeType a0.fNodes, SlcA kEdgeType a0.fEdges], AggA [SlcA kInt a1.fGraph.fNodes, SlcA kEdge a1.fGraph.fEdges, SlcA kSlot a1.fSlots, iA a1.fVars, SlcA kTest a1.fTests], AggA [SlcA kInt a2.fGraph.fNodes, SlcA kEdge a2.fGraph.fEdges, SlcA (kSl kInt) a2.fValues]]) R ca72 (attribute_given.con k a0 a1 a2 t100 ht100) R) <| av R R <| qz <| qw (env' := [(10, _), (7, _), (6, _), (5, _), (4, _)]) (.o4 R (.one R (.nil _))) <| qq <| sr <| mv R R <| pk R 16 R (qB R R) <| nt ?_
 refine qZ h R (fun hb101 h => ?_) (fun hb101 h => ?_)
 ·refine sr <| mv R R <| ak R <| av R R <| qz <| qw (env' := [(9, _), (8, _)]) (.o2 R (.nil _)) <| qq <| vq <| qy ?_
  cases h
  exact QR.f2 R R (.t R) (.t R) (.imp (Imp.tup (.cons (Imp.nil kInt) (.cons (Imp.id _) .nil))))
 ·refine qK <| qq <| qX <| sr <| lS R R sh35 R R <| fd R R fo42_0 R <| lS R R sh38 R R <| fd R R fo60_0 R <| lS R R sh38 R R <| lS R R sh64 R R ?_
  obtain ⟨t102, ht102, h⟩ := vx h
  refine WL.p R R R (.s 19 R (.s 21 R (.s 23 R (.s 24 R (.k .nil))))) (vQ (f := 73) (A := iA t102) (xs := [.tmp 19, .tmp 21, .tmp 23, .tmp 24, .const (.bool false)]) («as» := [AggA [SlcA kNodeType a0.fNodes, SlcA kEdgeType a0.fEdges], AggA [SlcA kInt a1.fGraph.fNodes, SlcA kEdge a1.fGraph.fEdges], AggA [SlcA kInt a2.fGraph.fNodes, SlcA kEdge a2.fGraph.fEdges], AggA [SlcA kInt a3.fNodes, SlcA kInt a3.fEdges], bA false]) R ca73 (search_Check.con k a0 a1.fGraph a2.fGraph a3 false t102 ht102) R) <| av R R <| qz <| qw (env' := [(11, _), (7, _), (6, _), (5, _)]) (.o4 R (.nil _)) <| qq <| sr <| mv R R <| pk R 26 R (qB R R) <| nt ?_
  refine qZ h R (fun hb103 h => ?_) (fun hb103 h => ?_)
  ·refine sr <| mv R R <| ak R <| av R R <| qz <| qw (env' := [(9, _), (8, _)]) (.o2 R (.nil _)) <| qq <| vq <| qy ?_
   cases h
   exact QR.f2 R R (.t R) (.t R) (.imp (Imp.tup (.cons (Imp.nil kInt) (.cons (Imp.id _) .nil))))
  ·refine qK <| qq <| sr <| lS R R sh42 R R <| lS R R sh60 R R <| lS R R sh64 R R ?_
   obtain ⟨t104, ht104, h⟩ := vx h
   refine WL.p R R R (.s 29 R (.s 30 R (.s 31 R .nil))) (vQ (f := 74) (A := TupA [SlcA kInt t104.1, iA t104.2]) (xs := [.tmp 29, .tmp 30, .tmp 31]) («as» := [AggA [SlcA kInt a1.fGraph.fNodes, SlcA kEdge a1.fGraph.fEdges, SlcA kSlot a1.fSlots, iA a1.fVars, SlcA kTest a1.fTests], AggA [SlcA kInt a2.fGraph.fNodes, SlcA kEdge a2.fGraph.fEdges, SlcA (kSl kInt) a2.fValues], AggA [SlcA kInt a3.fNodes, SlcA kInt a3.fEdges]]) R ca74 (attribute_solve.con k a1 a2 a3 t104 ht104) R) <| p1 R 32 R (vK R R) <| p1 R 32 R (vK R R) <| av R R <| av R R <| qz <| qw (env' := [(9, _), (8, _)]) (.o2 R (.nil _)) <| qq <| vq ?_
   cases h
   exact QR.f2 R R (.t R) (.t R) (.id _)
theorem slices_Equal_int.con (k : Nat) (a0 : (List Int)) (a1 : (List Int)) (r : Bool) (h : slices_Equal_int k a0 a1 = some r) : Con Tryz.prog 28 [] [SlcA kInt a0, SlcA kInt a1] (RA (bA r)) := by
 unfold slices_Equal_int at h
 refine vZ (N := 26) Tryz.func28 R R R fun w0_ fg_ => sr <| ak R <| nt <| qX <| sr <| mv R R <| p1 R 6 R (vB R elS26) <| mv R R <| p1 R 8 R (vB R elS26) ?_
 refine p2 R 7 R 9 R (qB R R) <| nt ?_
 refine qZ h R (fun hb100 h => ?_) (fun hb100 h => ?_)
 ·refine sr <| ak R <| qz <| qw (env' := [(4, _)]) (.one R (.nil _)) <| qq <| vq <| qy ?_
  cases h
  exact vW R R (.t R) (.id _)
 ·refine qK <| qq <| qX <| sr <| mv R R <| p1 R 11 R (vB R elS26) <| mk_ R <| qz <| qw (env' := [(13, _), (12, _), (1, _), (0, _)]) (.o4 R (.nil _)) <| qq <| vy ?_
  refine W.loop1 (Γ := Unit) (fun (_ : Unit) (x13 : Int) => [(0, SlcA kInt a0), (1, SlcA kInt a1), (12, iA (a0.length : Int)), (13, iA x13)]) (fun (_ : Unit) (_ : Int) => []) h () (.o4 R (.nil _)) R (fun rec0 K0 next0 _ x13 h => ?_)
  unfold slices_Equal_int.b0 at h
  refine sr <| p2 R 13 R 12 R (qB R R) <| nt <| qX ?_
  refine qZ h R (fun hb119 h => ?_) (fun hb119 h => ?_)
  ·refine qK <| qq <| qX <| vy <| sr <| mv R R <| av R R <| nt <| qX <| W.drawK [(0, false), (1, false), (2, false), (3, false), (4, false), (5, false), (6, false), (7, false), (8, false)] [] (bm [0, 0, 3, 7, 0, 0, 48, 112, 255]) mx (by kernel_rfl) <| dm R R R ?_
   refine dm R R R ?_
   obtain ⟨c124, h⟩ := qV h
   refine qx R R (.p R (.s 16 R (.s 17 R .nil)) R (vX R el26 R c124.1 c124.2)) <| dl R R R sh3 <| dm R R R <| dm R R R ?_
   obtain ⟨c125, h⟩ := qV h
   refine qx R R (.p R (.s 20 R (.s 21 R .nil)) R (vX R el26 R c125.1 c125.2)) <| dl R R R sh3 <| qx R R (.p R (.s 19 R (.s 23 R .nil)) R (qB R R)) <| DK.nil <| CSteps.nil <| qw (env' := [(24, _), (13, _), (12, _), (1, _), (0, _)]) (.o4 R (.one R (.nil _))) <| qq ?_
   refine qZ h R (fun hb126 h => ?_) (fun hb126 h => ?_)
   ·refine sr <| ak R <| nt <| vq <| vj <| qy <| qy <| vj <| qy ?_
    cases h
    exact vW R R (.t R) (.id _)
   ·refine qK <| vJ <| qq <| qJ ?_
    obtain ⟨c127, h⟩ := qV h
    refine pk R 13 R (vV R c127) <| mv R R <| qz ?_
    exact next0 () (x13 + 1) _ h (.o4 R (.nil _))
  ·refine bz <| qN <| qN <| bq <| qq <| sr <| ak R <| nt <| vq ?_
   cases h
   exact vW R R (.t R) (.id _)
theorem law21_AttributeMatches.con (k : Nat) (a0 : Case) (a1 : Bool) (r : Bool) (h : law21_AttributeMatches k a0 a1 = some r) : Con Tryz.prog 7 [] [AggA [SlcA kNodeType a0.fT.fNodes, SlcA kEdgeType a0.fT.fEdges, SlcA kInt a0.fP.fGraph.fNodes, SlcA kEdge a0.fP.fGraph.fEdges, SlcA kSlot a0.fP.fSlots, iA a0.fP.fVars, SlcA kTest a0.fP.fTests, SlcA kInt a0.fH.fGraph.fNodes, SlcA kEdge a0.fH.fGraph.fEdges, SlcA (kSl kInt) a0.fH.fValues], bA a1] (RA (bA r)) := by
 unfold law21_AttributeMatches at h
 refine vZ (N := 87) Tryz.func7 R R R fun w0_ fg_ => sr <| p1 R 0 R (bx R (qj _)) <| ak R <| nt <| qX <| qX ?_
 refine W.jn1 (Γ := Unit) (fun (_ : Unit) (x24 : Bool) => [(1, bA a1), (2, PtrA [SlcA kNodeType a0.fT.fNodes, SlcA kEdgeType a0.fT.fEdges, SlcA kInt a0.fP.fGraph.fNodes, SlcA kEdge a0.fP.fGraph.fEdges, SlcA kSlot a0.fP.fSlots, iA a0.fP.fVars, SlcA kTest a0.fP.fTests, SlcA kInt a0.fH.fGraph.fNodes, SlcA kEdge a0.fH.fGraph.fEdges, SlcA (kSl kInt) a0.fH.fValues]), (24, bA x24)]) (fun (_ : Unit) (_ : Bool) => []) h (fun _ x24 h => ?_) (fun j104 Kj104 h => ?_)
 ·refine qq ?_
  refine qZ h R (fun hb105 h => ?_) (fun hb105 h => ?_)
  ·refine sr ?_
   obtain ⟨t106, ht106, h⟩ := vx h
   refine WL.p R R R .nil (vQ (f := 9) (A := bA t106) (xs := []) («as» := []) R ca9 (law21_awake.con k  t106 ht106) R) <| av R R <| nt <| vq <| qy ?_
   cases h
   exact vW R R (.t R) (.id _)
  ·refine qK <| qq <| qX <| W.drawK [(0, false), (1, false), (2, false), (3, false), (4, false), (5, false), (6, false), (7, false), (8, false), (9, false), (10, false), (11, false), (12, false), (13, false), (14, false)] [] (bm [0, 1, 0, 4, 12, 0, 32, 124, 0, 511, 1023, 2047, 2047, 4095, 16383]) mx (by kernel_rfl) <| df R R R fo62_0 R <| qx R R (.p R (.s 27 R .nil) R (q_loadS R sh35 (leB R) R)) <| df R R R fo62_1 R <| qx R R (.p R (.s 29 R .nil) R (q_loadS R sh42 (leB R) R)) ?_
   obtain ⟨t113, ht113, h⟩ := vx h
   refine qx R R (.p R (.s 30 R .nil) R (vQ (f := 16) (A := AggA [SlcA kInt t113.fGraph.fNodes, SlcA kEdge t113.fGraph.fEdges, SlcA kSlot t113.fSlots, iA t113.fVars, SlcA kTest t113.fTests]) (xs := [.tmp 30]) («as» := [AggA [SlcA kInt a0.fP.fGraph.fNodes, SlcA kEdge a0.fP.fGraph.fEdges, SlcA kSlot a0.fP.fSlots, iA a0.fP.fVars, SlcA kTest a0.fP.fTests]]) R ca16 (ref21_Copied.con k a0.fP t113 ht113) R)) <| df R R R fo62_2 R <| qx R R (.p R (.s 32 R .nil) R (q_loadS R sh60 (leB R) R)) ?_
   obtain ⟨t114, ht114, h⟩ := vx h
   refine qx R R (.p R (.s 33 R .nil) R (vQ (f := 26) (A := AggA [SlcA kInt t114.fGraph.fNodes, SlcA kEdge t114.fGraph.fEdges, SlcA (kSl kInt) t114.fValues]) (xs := [.tmp 33]) («as» := [AggA [SlcA kInt a0.fH.fGraph.fNodes, SlcA kEdge a0.fH.fGraph.fEdges, SlcA (kSl kInt) a0.fH.fValues]]) R ca26 (ref15_Copied.con k a0.fH t114 ht114) R)) <| dm R R R ?_
   obtain ⟨t115, ht115, h⟩ := vx h
   refine qx R R (.p R (.s 28 R (.s 31 R (.s 34 R (.s 35 R .nil)))) R (vQ (f := 29) (A := TupA [SlcA kMatch t115.1, iA t115.2]) (xs := [.tmp 28, .tmp 31, .tmp 34, .tmp 35]) («as» := [AggA [SlcA kNodeType a0.fT.fNodes, SlcA kEdgeType a0.fT.fEdges], AggA [SlcA kInt t113.fGraph.fNodes, SlcA kEdge t113.fGraph.fEdges, SlcA kSlot t113.fSlots, iA t113.fVars, SlcA kTest t113.fTests], AggA [SlcA kInt t114.fGraph.fNodes, SlcA kEdge t114.fGraph.fEdges, SlcA (kSl kInt) t114.fValues], bA a1]) R ca29 (attribute_Matches.con k a0.fT t113 t114 a1 t115 ht115) R)) <| dm R R R <| qx R R (.p R (.s 26 R .nil) R (vK R R)) <| qx R R (.p R (.s 26 R .nil) R (vK R R)) <| qx R R (.p R (.s 37 R .nil) R (q_assign R)) <| qx R R (.p R (.s 38 R .nil) R (q_assign R)) <| DK.nil <| CSteps.nil <| qw (env' := [(6, _), (5, _), (2, _), (1, _)]) (.o4 R (.nil _)) <| qq <| sr <| fd R R fo62_0 R ?_
   refine lS R R sh35 R R <| fd R R fo62_1 R <| lS R R sh42 R R <| fd R R fo62_2 R <| lS R R sh60 R R <| mv R R ?_
   obtain ⟨t116, ht116, h⟩ := vx h
   refine WL.p R R R (.s 41 R (.s 43 R (.s 45 R (.s 46 R .nil)))) (vQ (f := 30) (A := TupA [SlcA kMatch t116.1, iA t116.2]) (xs := [.tmp 41, .tmp 43, .tmp 45, .tmp 46]) («as» := [AggA [SlcA kNodeType a0.fT.fNodes, SlcA kEdgeType a0.fT.fEdges], AggA [SlcA kInt a0.fP.fGraph.fNodes, SlcA kEdge a0.fP.fGraph.fEdges, SlcA kSlot a0.fP.fSlots, iA a0.fP.fVars, SlcA kTest a0.fP.fTests], AggA [SlcA kInt a0.fH.fGraph.fNodes, SlcA kEdge a0.fH.fGraph.fEdges, SlcA (kSl kInt) a0.fH.fValues], bA a1]) R ca30 (ref21_Matches.con k a0.fT a0.fP a0.fH a1 t116 ht116) R) <| mv R R <| p1 R 39 R (vK R R) <| p1 R 39 R (vK R R) <| av R R <| av R R <| qz <| qw (env' := [(8, _), (7, _), (6, _), (5, _), (2, _)]) (.o4 R (.one R (.nil _))) <| qq <| qX <| qX ?_
   refine W.jn1 (Γ := Unit) (fun (_ : Unit) (x58 : Bool) => [(2, PtrA [SlcA kNodeType a0.fT.fNodes, SlcA kEdgeType a0.fT.fEdges, SlcA kInt a0.fP.fGraph.fNodes, SlcA kEdge a0.fP.fGraph.fEdges, SlcA kSlot a0.fP.fSlots, iA a0.fP.fVars, SlcA kTest a0.fP.fTests, SlcA kInt a0.fH.fGraph.fNodes, SlcA kEdge a0.fH.fGraph.fEdges, SlcA (kSl kInt) a0.fH.fValues]), (5, SlcA kMatch t115.1), (58, bA x58)]) (fun (_ : Unit) (_ : Bool) => []) h (fun _ x58 h => ?_) (fun j120 Kj120 h => ?_)
   ·refine qq ?_
    refine qZ h R (fun hb121 h => ?_) (fun hb121 h => ?_)
    ·refine sr <| ak R <| nt <| vq <| qy ?_
     cases h
     exact vW R R (.t R) (.id _)
    ·refine qK <| qq <| qX <| sr <| mv R R <| p1 R 59 R (vB R elS71) <| mk_ R <| nt <| vy ?_
     refine W.loop1 (Γ := Unit) (fun (_ : Unit) (x61 : Int) => [(2, PtrA [SlcA kNodeType a0.fT.fNodes, SlcA kEdgeType a0.fT.fEdges, SlcA kInt a0.fP.fGraph.fNodes, SlcA kEdge a0.fP.fGraph.fEdges, SlcA kSlot a0.fP.fSlots, iA a0.fP.fVars, SlcA kTest a0.fP.fTests, SlcA kInt a0.fH.fGraph.fNodes, SlcA kEdge a0.fH.fGraph.fEdges, SlcA (kSl kInt) a0.fH.fValues]), (59, SlcA kMatch t115.1), (60, iA (t115.1.length : Int)), (61, iA x61)]) (fun (_ : Unit) (_ : Int) => []) h () (.o4 R (.nil _)) R (fun rec0 K0 next0 _ x61 h => ?_)
     unfold law21_AttributeMatches.b0 at h
     refine sr <| p2 R 61 R 60 R (qB R R) <| nt <| qX ?_
     refine qZ h R (fun hb146 h => ?_) (fun hb146 h => ?_)
     ·refine qK <| qq <| qX <| vy <| sr ?_
      obtain ⟨c147, h⟩ := qV h
      refine p2 R 59 R 61 R (vX R el71 R c147.1 c147.2) <| lS R R sh76 R R <| WL.w [] R (qQ R) R R .nil (w_alloc R z76 (l := [EqA (.slice none 0 0), EqA (.slice none 0 0), EqA (.slice none 0 0)]) R) ?_
      rintro _ _ ⟨b148, rfl, rfl⟩
      refine WL.w0 [0] R (qQ R) R (.s 10 R (.s 64 R .nil)) (w_store (L := [SlcA kInt ((rd t115.1 x61).fMorphism.fNodes), SlcA kInt ((rd t115.1 x61).fMorphism.fEdges), SlcA kInt ((rd t115.1 x61).fVars)]) R sh76 (qj _) R R (leB R) R) ?_
      rintro _ _ ⟨rfl, rfl⟩
      refine qz <| QN.to (StTo.still [0] 10 R R) <| qq <| sr <| fd R R fo62_0 R <| lS R R sh35 R R <| fd R R fo62_1 R <| lS R R sh42 R R <| fd R R fo62_2 R <| lS R R sh60 R R <| fd R R fo76_0 R <| lS R R sh64 R R ?_
      obtain ⟨t149, ht149, h⟩ := vx h
      refine WL.p R R R (.s 67 R (.s 69 R (.s 71 R (.s 73 R .nil)))) (vQ (f := 25) (A := TupA [SlcA kInt t149.1, iA t149.2]) (xs := [.tmp 67, .tmp 69, .tmp 71, .tmp 73]) («as» := [AggA [SlcA kNodeType a0.fT.fNodes, SlcA kEdgeType a0.fT.fEdges], AggA [SlcA kInt a0.fP.fGraph.fNodes, SlcA kEdge a0.fP.fGraph.fEdges, SlcA kSlot a0.fP.fSlots, iA a0.fP.fVars, SlcA kTest a0.fP.fTests], AggA [SlcA kInt a0.fH.fGraph.fNodes, SlcA kEdge a0.fH.fGraph.fEdges, SlcA (kSl kInt) a0.fH.fValues], AggA [SlcA kInt ((rd t115.1 x61).fMorphism.fNodes), SlcA kInt ((rd t115.1 x61).fMorphism.fEdges)]]) R ca25 (attribute_Solve.con k a0.fT a0.fP a0.fH ((rd t115.1 x61).fMorphism) t149 ht149) R) <| mv R R <| p1 R 65 R (vK R R) <| p1 R 65 R (vK R R) <| av R R <| av R R <| qz <| qw (env' := [(12, _), (11, _), (10, _), (61, _), (60, _), (59, _), (2, _)]) (.o4 R (.o2 R (.one R (.nil _)))) <| qq <| qX ?_
      refine W.jn1 (Γ := Unit) (fun (_ : Unit) (x85 : Bool) => [(2, PtrA [SlcA kNodeType a0.fT.fNodes, SlcA kEdgeType a0.fT.fEdges, SlcA kInt a0.fP.fGraph.fNodes, SlcA kEdge a0.fP.fGraph.fEdges, SlcA kSlot a0.fP.fSlots, iA a0.fP.fVars, SlcA kTest a0.fP.fTests, SlcA kInt a0.fH.fGraph.fNodes, SlcA kEdge a0.fH.fGraph.fEdges, SlcA (kSl kInt) a0.fH.fValues]), (59, SlcA kMatch t115.1), (60, iA (t115.1.length : Int)), (61, iA x61), (85, bA x85)]) (fun (_ : Unit) (_ : Bool) => []) h (fun _ x85 h => ?_) (fun j153 Kj153 h => ?_)
      ·refine qq ?_
       refine qZ h R (fun hb154 h => ?_) (fun hb154 h => ?_)
       ·refine sr <| ak R <| nt <| vq <| vj <| qy <| qy <| vj <| qy ?_
        cases h
        exact vW R R (.t R) (.id _)
       ·refine qK <| vJ <| qq <| qJ ?_
        obtain ⟨c155, h⟩ := qV h
        refine pk R 61 R (vV R c155) <| mv R R <| qz ?_
        exact next0 () (x61 + 1) _ h (.o4 R (.nil _))
      ·refine qJ <| mv R R <| pk R 77 R (qB R R) <| mv R R ?_
       rcases bif_s h with ⟨hb156, h⟩ | ⟨hb156, h⟩
       ·refine sk R R R hb156 <| sk R R R hb156 <| sk R R R hb156 <| sk R R R hb156 <| sk R R R hb156 <| pk R 79 R (vz R hb156) <| qz ?_
        exact qw (.o4 R (.one R (.nil _))) (Kj153 () true h)
       ·refine wm R R R hb156 R R <| wf R R R hb156 R R fo76_1 R <| wl R R R hb156 R R sh26 ?_
        obtain ⟨t157, ht157, h⟩ := vx h
        refine wq R R R hb156 (.s 80 R (.s 82 R .nil)) (vQ (f := 28) (A := bA t157) (xs := [.tmp 80, .tmp 82]) («as» := [SlcA kInt t149.1, SlcA kInt ((rd t115.1 x61).fVars)]) R ca28 (slices_Equal_int.con k t149.1 ((rd t115.1 x61).fVars) t157 ht157) R).o <| wq R R R hb156 (.s 83 R .nil) (q_not R).o <| p2 R 79 R 84 R (vw R hb156) <| qz ?_
        exact qw (.o4 R (.one R (.nil _))) (Kj153 () (!t157) h)
     ·refine bz <| qN <| qN <| bq <| qq <| sr <| ak R <| nt <| vq ?_
      cases h
      exact vW R R (.t R) (.id _)
   ·refine qJ <| mv R R <| mv R R <| p2 R 50 R 51 R (qB R R) <| mv R R ?_
    rcases bif_s h with ⟨hb158, h⟩ | ⟨hb158, h⟩
    ·refine sk R R R hb158 <| sk R R R hb158 <| sk R R R hb158 <| sk R R R hb158 <| pk R 53 R (vz R hb158) <| qz ?_
     exact qw (.o2 R (.one R (.nil _))) (Kj120 () true h)
    ·refine wm R R R hb158 R R <| wm R R R hb158 R R ?_
     obtain ⟨t159, ht159, h⟩ := vx h
     refine wq R R R hb158 (.s 54 R (.s 55 R .nil)) (vQ (f := 31) (A := bA t159) (xs := [.tmp 54, .tmp 55]) («as» := [SlcA kMatch t115.1, SlcA kMatch t116.1]) R ca31 (ref21_SameMatches.con k t115.1 t116.1 t159 ht159) R).o <| wq R R R hb158 (.s 56 R .nil) (q_not R).o <| p2 R 53 R 57 R (vw R hb158) <| qz ?_
     exact qw (.o2 R (.one R (.nil _))) (Kj120 () (!t159) h)
 ·refine qJ ?_
  obtain ⟨t160, ht160, h⟩ := vx h
  refine WL.p R R R .nil (vQ (f := 9) (A := bA t160) (xs := []) («as» := []) R ca9 (law21_awake.con k  t160 ht160) R) <| p1 R 13 R (q_not R) <| mv R R ?_
  rcases bif_s h with ⟨hb161, h⟩ | ⟨hb161, h⟩
  ·refine sk R R R hb161 <| sk R R R hb161 <| sk R R R hb161 <| sk R R R hb161 <| sk R R R hb161 <| sk R R R hb161 <| sk R R R hb161 <| sk R R R hb161 <| pk R 15 R (vz R hb161) <| qz ?_
   exact qw (.o2 R (.one R (.nil _))) (Kj104 () true h)
  ·refine wf R R R hb161 R R fo62_0 R <| wq R R R hb161 (.s 16 R .nil) (q_loadS R sh35 (leB R) R).o <| wf R R R hb161 R R fo62_1 R <| wq R R R hb161 (.s 18 R .nil) (q_loadS R sh42 (leB R) R).o <| wf R R R hb161 R R fo62_2 R <| wq R R R hb161 (.s 20 R .nil) (q_loadS R sh60 (leB R) R).o ?_
   obtain ⟨t162, ht162, h⟩ := vx h
   refine wq R R R hb161 (.s 17 R (.s 19 R (.s 21 R .nil))) (vQ (f := 24) (A := bA t162) (xs := [.tmp 17, .tmp 19, .tmp 21]) («as» := [AggA [SlcA kNodeType a0.fT.fNodes, SlcA kEdgeType a0.fT.fEdges], AggA [SlcA kInt a0.fP.fGraph.fNodes, SlcA kEdge a0.fP.fGraph.fEdges, SlcA kSlot a0.fP.fSlots, iA a0.fP.fVars, SlcA kTest a0.fP.fTests], AggA [SlcA kInt a0.fH.fGraph.fNodes, SlcA kEdge a0.fH.fGraph.fEdges, SlcA (kSl kInt) a0.fH.fValues]]) R ca24 (ref21_Light.con k a0.fT a0.fP a0.fH t162 ht162) R).o <| wq R R R hb161 (.s 22 R .nil) (q_not R).o <| p2 R 15 R 23 R (vw R hb161) <| qz ?_
   exact qw (.o2 R (.one R (.nil _))) (Kj104 () (!t162) h)
end Go.Proofs.YtcgdfjpeboiioaaGreat
