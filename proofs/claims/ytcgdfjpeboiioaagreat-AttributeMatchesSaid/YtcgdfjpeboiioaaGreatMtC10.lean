import Derived.Test.YtcgdfjpeboiioaaGreatMtC9
namespace Go.Proofs.YtcgdfjpeboiioaaGreat
open Go Go.Abs
attribute [local irreducible] Tryz.prog
theorem ref15_node.con (k : Nat) (a0 : Types) (a1 : Int) (a2 : (List Int)) (r : Int) (h : ref15_node k a0 a1 a2 = some r) : Con Tryz.prog 88 [] [AggA [SlcA kNodeType a0.fNodes, SlcA kEdgeType a0.fEdges], iA a1, SlcA kInt a2] (RA (iA r)) := by
 unfold ref15_node at h
 refine vZ (N := 60) Tryz.func88 R R R fun w0_ fg_ => sr <| p1 R 0 R (bx R (qj _)) <| ak R <| nt <| qX <| sr <| mv R R <| fd R R fo35_0 R <| ld R R sh32 ?_
 refine p1 R 12 R (vB R elS32) <| p2 R 10 R 13 R (qB R R) <| nt ?_
 refine qZ h R (fun hb100 h => ?_) (fun hb100 h => ?_)
 ·refine sr <| ak R <| qz <| qw (env' := [(6, _)]) (.one R (.nil _)) <| qq <| vq <| qy ?_
  cases h
  exact vW R R (.t R) (.id _)
 ·refine qK <| qw (env' := [(3, _), (2, _), (1, _)]) (.o2 R (.one R (.nil _))) <| qq <| qX <| sr <| fd R R fo35_0 R <| ld R R sh32 <| mv R R ?_
  obtain ⟨c101, h⟩ := qV h
  refine p2 R 16 R 17 R (vX R el32 R c101.1 c101.2) <| fd R R fo92_2 R <| ld R R sh4 <| nt ?_
  refine qZ h R (fun hb102 h => ?_) (fun hb102 h => ?_)
  ·refine sr <| ak R <| qz <| qw (env' := [(6, _)]) (.one R (.nil _)) <| qq <| vq <| qy ?_
   cases h
   exact vW R R (.t R) (.id _)
  ·refine qK <| qq <| sr <| lS R R sh35 R R <| mv R R ?_
   obtain ⟨t103, ht103, h⟩ := vx h
   refine p2 R 22 R 23 R (vQ (f := 86) (A := TupA [SlcA kAttr t103.1, iA t103.2]) (xs := [.tmp 22, .tmp 23]) («as» := [AggA [SlcA kNodeType a0.fNodes, SlcA kEdgeType a0.fEdges], iA a1]) R ca86 (ref04_Attrs.con k a0 a1 t103 ht103) R) <| mv R R <| p1 R 21 R (vK R R) <| p1 R 21 R (vK R R) <| av R R <| av R R <| qz <| qw (env' := [(7, _), (2, _)]) (.o2 R (.nil _)) <| qq <| qX <| sr <| mv R R ?_
   refine p1 R 27 R (vB R elS26) <| mv R R <| p1 R 29 R (vB R elS90) <| p2 R 28 R 30 R (qB R R) <| nt ?_
   refine qZ h R (fun hb104 h => ?_) (fun hb104 h => ?_)
   ·refine sr <| ak R <| qz <| qw (env' := [(6, _)]) (.one R (.nil _)) <| qq <| vq <| qy ?_
    cases h
    exact vW R R (.t R) (.id _)
   ·refine qK <| qq <| qX <| sr <| ak R <| nt <| vy ?_
    refine W.loop1 (Γ := Unit) (fun (_ : Unit) (x9 : Int) => [(2, SlcA kInt a2), (7, SlcA kAttr t103.1), (9, iA x9)]) (fun (_ : Unit) (_ : Int) => []) h () (.o2 R (.one R (.nil _))) R (fun rec0 K0 next0 _ x9 h => ?_)
    unfold ref15_node.b0 at h
    refine qX <| sr <| mv R R <| mv R R <| p1 R 33 R (vB R elS90) <| p2 R 32 R 34 R (qB R R) <| nt ?_
    refine qZ h R (fun hb145 h => ?_) (fun hb145 h => ?_)
    ·refine qK <| qq <| qX <| vy <| qX ?_
     refine W.jn1 (Γ := Unit) (fun (_ : Unit) (x59 : Bool) => [(2, SlcA kInt a2), (7, SlcA kAttr t103.1), (9, iA x9), (59, bA x59)]) (fun (_ : Unit) (_ : Bool) => []) h (fun _ x59 h => ?_) (fun j157 Kj157 h => ?_)
     ·refine qq ?_
      refine qZ h R (fun hb158 h => ?_) (fun hb158 h => ?_)
      ·refine sr <| ak R <| nt <| vq <| vj <| qy <| qy <| vj <| qy ?_
       cases h
       exact vW R R (.t R) (.id _)
      ·refine qK <| vJ <| qq <| qJ <| mv R R ?_
       obtain ⟨c159, h⟩ := qV h
       refine pk R 36 R (vV R c159) <| av R R <| qz ?_
       exact next0 () (x9 + 1) _ h (.o2 R (.one R (.nil _)))
     ·refine W.drawK [(0, false), (1, false), (2, false), (3, false), (4, false), (5, false), (6, false), (7, false), (8, false), (9, false), (10, false), (11, false), (12, false), (13, false), (14, false), (15, false), (16, false), (17, false), (18, false), (19, false), (20, false), (21, false)] [] (bm [0, 0, 3, 7, 0, 0, 48, 112, 240, 511, 1023, 2047, 2047, 8191, 16383, 2047, 2047, 100351, 231423, 493567, 1048575, 2097151]) mx (by kernel_rfl) <| dm R R R <| dm R R R ?_
      obtain ⟨c160, h⟩ := qV h
      refine qx R R (.p R (.s 38 R (.s 39 R .nil)) R (vX R el26 R c160.1 c160.2)) <| dl R R R sh3 <| dm R R R <| dm R R R ?_
      obtain ⟨c161, h⟩ := qV h
      refine qx R R (.p R (.s 42 R (.s 43 R .nil)) R (vX R el90 R c161.1 c161.2)) <| df R R R fo95_1 R <| dl R R R sh3 <| qx R R (.p R (.s 41 R (.s 46 R .nil)) R (qB R R)) <| dm R R R ?_
      rcases bif_s h with ⟨hb162, h⟩ | ⟨hb162, h⟩
      ·refine dx R R R hb162 <| dx R R R hb162 <| dx R R R hb162 <| dx R R R hb162 <| dx R R R hb162 <| dx R R R hb162 <| dx R R R hb162 <| dx R R R hb162 <| dx R R R hb162 <| dx R R R hb162 <| qx R R (.p R (.s 48 R (.k .nil)) R (vz R hb162)) <| DK.nil <| CSteps.nil ?_
       exact qw (.o4 R (.nil _)) (Kj157 () true h)
      ·refine qx R R (.gp R R R hb162 (.s 2 R .nil) R (q_move R)) <| qx R R (.gp R R R hb162 (.s 9 R .nil) R (q_move R)) ?_
       obtain ⟨c163, h⟩ := qV h
       refine qx R R (.gp R R R hb162 (.s 49 R (.s 50 R .nil)) R (vX R el26 R c163.1 c163.2)) <| qx R R (.gp R R R hb162 (.s 51 R .nil) R (q_load R sh3)) <| qx R R (.gp R R R hb162 (.s 7 R .nil) R (q_move R)) <| qx R R (.gp R R R hb162 (.s 9 R .nil) R (q_move R)) ?_
       obtain ⟨c164, h⟩ := qV h
       refine qx R R (.gp R R R hb162 (.s 53 R (.s 54 R .nil)) R (vX R el90 R c164.1 c164.2)) <| qx R R (.gp R R R hb162 (.s 55 R .nil) R (q_field R fo95_2 R)) <| qx R R (.gp R R R hb162 (.s 56 R .nil) R (q_load R sh3)) <| qx R R (.gp R R R hb162 (.s 52 R (.s 57 R .nil)) R (qB R R)) <| qx R R (.p R (.s 48 R (.s 58 R .nil)) R (vw R hb162)) <| DK.nil <| CSteps.nil ?_
       exact qw (.o4 R (.nil _)) (Kj157 () (decide ((rd a2 x9) > (rd t103.1 x9).fHigh)) h)
    ·refine bz <| qN <| qN <| bq <| qw (env' := []) (.nil _) <| qq <| sr <| ak R <| nt <| vq ?_
     cases h
     exact vW R R (.t R) (.id _)
theorem ref04_Below1.con : ∀ (k : Nat) (a0 : Types) (a1 : Int) (a2 : Int) (r : Bool) (_ : ref04_Below1 k a0 a1 a2 = some r), Con Tryz.prog 141 [] [AggA [SlcA kNodeType a0.fNodes, SlcA kEdgeType a0.fEdges], iA a1, iA a2] (RA (bA r)) := by
 intro k
 induction k with
 | zero => intro a0 a1 a2 r h; cases h
 | succ k ih =>
  intro a0 a1 a2 r h
  change ref04_Below1.main (ref04_Below1 k) k a0 a1 a2 = some r at h
  unfold ref04_Below1.main at h
  refine vZ (N := 25) Tryz.func141 R R R fun w0_ fg_ => sr <| p1 R 0 R (bx R (qj _)) <| ak R <| nt <| qX ?_
  refine W.jn1 (Γ := Unit) (fun (_ : Unit) (x6 : Bool) => [(6, bA x6)]) (fun (_ : Unit) (_ : Bool) => []) h (fun _ x6 h => ?_) (fun j109 Kj109 h => ?_)
  ·refine qq <| vq ?_
   cases h
   exact vW R R (.t R) (.id _)
  ·refine W.drawK [(0, false), (1, false), (2, false), (3, false), (4, false), (5, false), (6, false), (7, false), (8, false), (9, false), (10, false), (11, false), (12, false), (13, false), (14, false), (15, false), (16, false), (17, false), (18, false)] [] (bm [0, 0, 3, 7, 15, 31, 63, 127, 127, 383, 127, 1919, 3967, 8063, 127, 32767, 65535, 131071, 262143]) mx (by kernel_rfl) <| dm R R R <| dm R R R <| qx R R (.p R (.s 7 R (.s 8 R .nil)) R (qB R R)) <| dm R R R ?_
   rcases bif_s h with ⟨hb110, h⟩ | ⟨hb110, h⟩
   ·refine dx R R R hb110 <| dx R R R hb110 <| dx R R R hb110 <| qx R R (.und R R R) <| qx R R (.und R R R) <| qx R R (.und R R R) <| qx R R (.und R R R) <| qx R R (.und R R R) <| qx R R (.und R R R) <| qx R R (.und R R R) <| qx R R (.und R R R) <| qx R R (.und R R R) <| dx R R R hb110 ?_
    refine qx R R (.p R (.s 10 R (.k .nil)) R (vz R hb110)) <| qx R R (.p R (.s 24 R .nil) R (q_assign R)) <| DK.nil <| CSteps.nil ?_
    exact qw (.one R (.nil _)) (Kj109 () true h)
   ·refine qx R R (.gp R R R hb110 (.s 1 R .nil) R (q_move R)) <| qx R R (.gp R R R hb110 (.s 11 R (.k .nil)) R (qB R R)) <| qx R R (.gp R R R hb110 (.s 12 R .nil) R (q_move R)) ?_
    rcases bif_s h with ⟨hb111, h⟩ | ⟨hb111, h⟩
    ·refine qx R R (.gp R R R hb111 (.s 3 R .nil) R (q_loadS R sh35 (leB R) R)) <| qx R R (.gp R R R hb111 (.s 3 R .nil) R (q_field R fo35_0 R)) <| qx R R (.gp R R R hb111 (.s 15 R .nil) R (q_load R sh32)) <| qx R R (.gp R R R hb111 (.s 1 R .nil) R (q_move R)) ?_
     obtain ⟨c112, h⟩ := qV h
     refine qx R R (.gp R R R hb111 (.s 16 R (.s 17 R .nil)) R (vX R el32 R c112.1 c112.2)) <| qx R R (.gp R R R hb111 (.s 18 R .nil) R (q_field R fo92_1 R)) <| qx R R (.gp R R R hb111 (.s 19 R .nil) R (q_load R sh3)) <| qx R R (.gp R R R hb111 (.s 2 R .nil) R (q_move R)) ?_
     obtain ⟨t113, ht113, h⟩ := vx h
     refine qx R R (.gp R R R hb111 (.s 14 R (.s 20 R (.s 21 R .nil))) R (vQ (f := 141) (A := bA t113) (xs := [.tmp 14, .tmp 20, .tmp 21]) («as» := [AggA [SlcA kNodeType a0.fNodes, SlcA kEdgeType a0.fEdges], iA ((rd a0.fNodes a1).fParent), iA a2]) R ca141 (ih a0 ((rd a0.fNodes a1).fParent) a2 t113 ht113) R)) <| qx R R (.gp R R R hb110 (.s 13 R (.s 22 R .nil)) R (vz R hb111)) <| qx R R (.p R (.s 10 R (.s 23 R .nil)) R (vw R hb110)) <| qx R R (.p R (.s 24 R .nil) R (q_assign R)) <| DK.nil <| CSteps.nil ?_
     exact qw (.one R (.nil _)) (Kj109 () t113 h)
    ·refine dx R R R hb111 <| dx R R R hb111 <| dx R R R hb111 <| dx R R R hb111 <| dx R R R hb111 <| dx R R R hb111 <| dx R R R hb111 <| dx R R R hb111 <| dx R R R hb111 <| qx R R (.gp R R R hb110 (.s 13 R (.k .nil)) R (vw R hb111)) <| qx R R (.p R (.s 10 R (.s 23 R .nil)) R (vw R hb110)) <| qx R R (.p R (.s 24 R .nil) R (q_assign R)) <| DK.nil ?_
     refine CSteps.nil ?_
     exact qw (.one R (.nil _)) (Kj109 () false h)
theorem ref04_Fits.con (k : Nat) (a0 : Types) (a1 : Int) (a2 : Int) (a3 : Int) (r : Bool) (h : ref04_Fits k a0 a1 a2 a3 = some r) : Con Tryz.prog 89 [] [AggA [SlcA kNodeType a0.fNodes, SlcA kEdgeType a0.fEdges], iA a1, iA a2, iA a3] (RA (bA r)) := by
 unfold ref04_Fits at h
 refine vZ (N := 43) Tryz.func89 R R R fun w0_ fg_ => sr <| p1 R 0 R (bx R (qj _)) <| ak R <| nt <| qX <| qX ?_
 refine W.jn1 (Γ := Unit) (fun (_ : Unit) (x22 : Bool) => [(1, iA a1), (2, iA a2), (3, iA a3), (4, PtrA [SlcA kNodeType a0.fNodes, SlcA kEdgeType a0.fEdges]), (22, bA x22)]) (fun (_ : Unit) (_ : Bool) => []) h (fun _ x22 h => ?_) (fun j105 Kj105 h => ?_)
 ·refine qq ?_
  refine qZ h R (fun hb106 h => ?_) (fun hb106 h => ?_)
  ·refine sr <| ak R <| nt <| vq <| qy ?_
   cases h
   exact vW R R (.t R) (.id _)
  ·refine qK <| qq <| qX ?_
   refine W.jn1 (Γ := Unit) (fun (_ : Unit) (x8 : Bool) => [(8, bA x8)]) (fun (_ : Unit) (_ : Bool) => []) h (fun _ x8 h => ?_) (fun j118 Kj118 h => ?_)
   ·refine qq <| vq ?_
    cases h
    exact vW R R (.t R) (.id _)
   ·refine W.drawK [(0, false), (1, false), (2, false), (3, false), (4, false), (5, false), (6, false), (7, false), (8, false), (9, false), (10, false), (11, false), (12, false), (13, false), (14, false), (15, false), (16, false), (17, false), (18, false), (19, false), (20, false)] [] (bm [0, 0, 0, 4, 0, 28, 60, 124, 255, 511, 1023, 1023, 1023, 5119, 1023, 29695, 62463, 127999, 262143, 524287, 1048575]) mx (by kernel_rfl) <| qx R R (.p R (.s 4 R .nil) R (q_loadS R sh35 (leB R) R)) <| dm R R R <| df R R R fo35_1 R <| dl R R R sh33 <| dm R R R ?_
    obtain ⟨c119, h⟩ := qV h
    refine qx R R (.p R (.s 26 R (.s 27 R .nil)) R (vX R el33 R c119.1 c119.2)) <| df R R R fo97_1 R <| dl R R R sh3 ?_
    obtain ⟨t120, ht120, h⟩ := vx h
    refine qx R R (.p R (.s 23 R (.s 24 R (.s 30 R .nil))) R (vQ (f := 141) (A := bA t120) (xs := [.tmp 23, .tmp 24, .tmp 30]) («as» := [AggA [SlcA kNodeType a0.fNodes, SlcA kEdgeType a0.fEdges], iA a2, iA ((rd a0.fEdges a1).fFrom)]) R ca141 (ref04_Below1.con k a0 a2 ((rd a0.fEdges a1).fFrom) t120 ht120) R)) <| dm R R R ?_
    rcases bif_s h with ⟨hb121, h⟩ | ⟨hb121, h⟩
    ·refine qx R R (.gp R R R hb121 (.s 4 R .nil) R (q_loadS R sh35 (leB R) R)) <| qx R R (.gp R R R hb121 (.s 3 R .nil) R (q_move R)) <| qx R R (.gp R R R hb121 (.s 4 R .nil) R (q_field R fo35_1 R)) <| qx R R (.gp R R R hb121 (.s 35 R .nil) R (q_load R sh33)) <| qx R R (.gp R R R hb121 (.s 1 R .nil) R (q_move R)) ?_
     obtain ⟨c122, h⟩ := qV h
     refine qx R R (.gp R R R hb121 (.s 36 R (.s 37 R .nil)) R (vX R el33 R c122.1 c122.2)) <| qx R R (.gp R R R hb121 (.s 38 R .nil) R (q_field R fo97_2 R)) <| qx R R (.gp R R R hb121 (.s 39 R .nil) R (q_load R sh3)) ?_
     obtain ⟨t123, ht123, h⟩ := vx h
     refine qx R R (.gp R R R hb121 (.s 33 R (.s 34 R (.s 40 R .nil))) R (vQ (f := 141) (A := bA t123) (xs := [.tmp 33, .tmp 34, .tmp 40]) («as» := [AggA [SlcA kNodeType a0.fNodes, SlcA kEdgeType a0.fEdges], iA a3, iA ((rd a0.fEdges a1).fTo)]) R ca141 (ref04_Below1.con k a0 a3 ((rd a0.fEdges a1).fTo) t123 ht123) R)) <| qx R R (.p R (.s 32 R (.s 41 R .nil)) R (vz R hb121)) <| qx R R (.p R (.s 42 R .nil) R (q_assign R)) <| DK.nil <| CSteps.nil ?_
     exact qw (.one R (.nil _)) (Kj118 () t123 h)
    ·refine dx R R R hb121 <| dx R R R hb121 <| dx R R R hb121 <| dx R R R hb121 <| dx R R R hb121 <| dx R R R hb121 <| dx R R R hb121 <| dx R R R hb121 <| dx R R R hb121 <| qx R R (.p R (.s 32 R (.k .nil)) R (vw R hb121)) <| qx R R (.p R (.s 42 R .nil) R (q_assign R)) <| DK.nil <| CSteps.nil ?_
     exact qw (.one R (.nil _)) (Kj118 () false h)
 ·refine qJ <| lS R R sh35 R R <| mv R R <| mv R R ?_
  obtain ⟨t124, ht124, h⟩ := vx h
  refine WL.p R R R (.s 9 R (.s 10 R (.s 11 R .nil))) (vQ (f := 138) (A := iA t124) (xs := [.tmp 9, .tmp 10, .tmp 11]) («as» := [AggA [SlcA kNodeType a0.fNodes, SlcA kEdgeType a0.fEdges], iA a2, iA a3]) R ca138 (ref04_given.con k a0 a2 a3 t124 ht124) R) <| pk R 12 R (qB R R) <| mv R R ?_
  rcases bif_s h with ⟨hb125, h⟩ | ⟨hb125, h⟩
  ·refine sk R R R hb125 <| sk R R R hb125 <| sk R R R hb125 <| sk R R R hb125 <| sk R R R hb125 <| sk R R R hb125 <| sk R R R hb125 <| pk R 14 R (vz R hb125) <| qz ?_
   exact qw (.o4 R (.one R (.nil _))) (Kj105 () true h)
  ·refine wm R R R hb125 R R <| wf R R R hb125 R R fo35_1 R <| wl R R R hb125 R R sh33 <| wq R R R hb125 (.s 17 R .nil) (vB R elS33).o ?_
   obtain ⟨c126, h⟩ := qV h
   refine wq R R R hb125 (.s 18 R (.k .nil)) (q_subR R c126).o ?_
   obtain ⟨t127, ht127, h⟩ := vx h
   refine wq R R R hb125 (.s 15 R (.k (.s 19 R .nil))) (vQ (f := 140) (A := bA t127) (xs := [.tmp 15, .const (.int .i64 0), .tmp 19]) («as» := [iA a1, iA 0, iA ((a0.fEdges.length : Int) - 1)]) R ca140 (ref04_in.con k a1 0 ((a0.fEdges.length : Int) - 1) t127 ht127) R).o <| wq R R R hb125 (.s 20 R .nil) (q_not R).o <| p2 R 14 R 21 R (vw R hb125) <| qz ?_
   exact qw (.o4 R (.one R (.nil _))) (Kj105 () (!t127) h)
theorem ref15_Valid.con (k : Nat) (a0 : Types) (a1 : Host) (r : (Int × Int)) (h : ref15_Valid k a0 a1 = some r) : Con Tryz.prog 36 [] [AggA [SlcA kNodeType a0.fNodes, SlcA kEdgeType a0.fEdges], AggA [SlcA kInt a1.fGraph.fNodes, SlcA kEdge a1.fGraph.fEdges, SlcA (kSl kInt) a1.fValues]] (RA (TupA [iA r.1, iA r.2])) := by
 unfold ref15_Valid at h
 refine vZ (N := 101) Tryz.func36 R R R fun w0_ fg_ => sr <| p1 R 0 R (bx R (qj _)) <| p1 R 1 R (bx R (qj _)) <| ak R <| ak R <| nt <| qX <| sr <| lS R R sh35 R R ?_
 obtain ⟨t100, ht100, h⟩ := vx h
 refine p1 R 14 R (vQ (f := 58) (A := TupA [EqA (strV t100.1), iA t100.2]) (xs := [.tmp 14]) («as» := [AggA [SlcA kNodeType a0.fNodes, SlcA kEdgeType a0.fEdges]]) R ca58 (ref04_Valid.con k a0 t100 ht100) R) <| mv R R <| p1 R 13 R (vK R R) <| p1 R 13 R (vK R R) <| av R R <| av R R <| qz <| qw (env' := [(7, _), (3, _), (2, _)]) (.o2 R (.one R (.nil _))) <| qq <| sr <| mv R R <| pk R 18 R (qB R R) ?_
 refine nt ?_
 refine qZ h R (fun hb101 h => ?_) (fun hb101 h => ?_)
 ·refine sr <| mv R R <| ak R <| av R R <| nt <| vq <| qy ?_
  cases h
  exact QR.f2 R R (.t R) (.t R) (.id _)
 ·refine qK <| qq <| qX <| sr <| fd R R fo60_0 R <| lS R R sh38 R R ?_
  obtain ⟨t102, ht102, h⟩ := vx h
  refine p1 R 22 R (vQ (f := 59) (A := iA t102) (xs := [.tmp 22]) («as» := [AggA [SlcA kInt a1.fGraph.fNodes, SlcA kEdge a1.fGraph.fEdges]]) R ca59 (ref05_Valid.con k a1.fGraph t102 ht102) R) <| av R R <| nx <| mv R R <| pk R 24 R (qB R R) <| qz <| qw (env' := [(25, _), (8, _), (3, _), (2, _)]) (.o4 R (.nil _)) <| qq ?_
  refine qZ h R (fun hb103 h => ?_) (fun hb103 h => ?_)
  ·refine sr <| mv R R <| ak R <| av R R <| nt <| vq <| qy ?_
   cases h
   exact QR.f2 R R (.t R) (.t R) (.id _)
  ·refine qK <| qq <| qX <| sr <| fd R R fo60_1 R <| ld R R sh58 <| p1 R 28 R (vB R elS58) <| fd R R fo60_0 R <| fd R R fo38_0 R <| ld R R sh26 <| p1 R 32 R (vB R elS26) <| p2 R 29 R 33 R (qB R R) ?_
   refine qz <| qw (env' := [(34, _), (3, _), (2, _)]) (.o2 R (.one R (.nil _))) <| qq ?_
   refine qZ h R (fun hb104 h => ?_) (fun hb104 h => ?_)
   ·refine sr <| ak R <| ak R <| nt <| vq <| qy ?_
    cases h
    exact QR.f2 R R (.t R) (.t R) (.id _)
   ·refine qK <| qq <| qX <| sr <| ak R <| nt <| vy ?_
    refine W.loop1 (Γ := Unit) (fun (_ : Unit) (x9 : Int) => [(2, PtrA [SlcA kNodeType a0.fNodes, SlcA kEdgeType a0.fEdges]), (3, PtrA [SlcA kInt a1.fGraph.fNodes, SlcA kEdge a1.fGraph.fEdges, SlcA (kSl kInt) a1.fValues]), (9, iA x9)]) (fun (_ : Unit) (_ : Int) => []) h () (.o2 R (.one R (.nil _))) R (fun rec0 K0 next0 _ x9 h => ?_)
    unfold ref15_Valid.b0 at h
    refine qX <| sr <| mv R R <| fd R R fo60_0 R <| fd R R fo38_0 R <| ld R R sh26 <| p1 R 38 R (vB R elS26) <| p2 R 35 R 39 R (qB R R) <| nt ?_
    refine qZ h R (fun hb219 h => ?_) (fun hb219 h => ?_)
    ·refine qK <| qq <| qX <| vy <| qX <| W.drawK [(0, false), (1, false), (2, false), (3, false), (4, false), (5, false), (6, false), (7, false), (8, false), (9, false), (10, false), (11, false), (12, false), (13, false)] [] (bm [0, 0, 2, 6, 0, 30, 62, 0, 128, 0, 896, 1920, 4095, 8191]) mx (by kernel_rfl) <| qx R R (.p R (.s 2 R .nil) R (q_loadS R sh35 (leB R) R)) <| df R R R fo60_0 R <| df R R R fo38_0 R <| dl R R R sh26 <| dm R R R ?_
     obtain ⟨c226, h⟩ := qV h
     refine qx R R (.p R (.s 46 R (.s 47 R .nil)) R (vX R el26 R c226.1 c226.2)) <| dl R R R sh3 <| df R R R fo60_1 R <| dl R R R sh58 <| dm R R R ?_
     obtain ⟨c227, h⟩ := qV h
     refine qx R R (.p R (.s 51 R (.s 52 R .nil)) R (vX R el58 R c227.1 c227.2)) <| dl R R R sh26 ?_
     obtain ⟨t228, ht228, h⟩ := vx h
     refine qx R R (.p R (.s 43 R (.s 49 R (.s 54 R .nil))) R (vQ (f := 88) (A := iA t228) (xs := [.tmp 43, .tmp 49, .tmp 54]) («as» := [AggA [SlcA kNodeType a0.fNodes, SlcA kEdgeType a0.fEdges], iA (rd a1.fGraph.fNodes x9), SlcA kInt (rd a1.fValues x9)]) R ca88 (ref15_node.con k a0 (rd a1.fGraph.fNodes x9) (rd a1.fValues x9) t228 ht228) R)) <| qx R R (.p R (.s 55 R .nil) R (q_assign R)) <| DK.nil <| CSteps.nil <| qw (env' := [(10, _), (9, _), (3, _), (2, _)]) (.o4 R (.nil _)) <| qq <| sr <| mv R R <| pk R 56 R (qB R R) <| nt ?_
     refine qZ h R (fun hb229 h => ?_) (fun hb229 h => ?_)
     ·refine sr <| mv R R <| mv R R <| av R R <| av R R <| qz <| qw (env' := [(5, _), (4, _)]) (.o2 R (.nil _)) <| qq <| vq <| vj <| qy <| qy ?_
      refine vj <| qy ?_
      cases h
      exact QR.f2 R R (.t R) (.t R) (.id _)
     ·refine qK <| vJ <| qq <| qJ <| mv R R ?_
      obtain ⟨c230, h⟩ := qV h
      refine pk R 41 R (vV R c230) <| av R R <| qz ?_
      exact next0 () (x9 + 1) _ h (.o2 R (.one R (.nil _)))
    ·refine bz <| qN <| qN <| bq <| qw (env' := [(3, _), (2, _)]) (.o2 R (.nil _)) <| qq <| qX <| sr <| ak R <| nt <| vy ?_
     refine W.loop1 (Γ := Unit) (fun (_ : Unit) (x11 : Int) => [(2, PtrA [SlcA kNodeType a0.fNodes, SlcA kEdgeType a0.fEdges]), (3, PtrA [SlcA kInt a1.fGraph.fNodes, SlcA kEdge a1.fGraph.fEdges, SlcA (kSl kInt) a1.fValues]), (11, iA x11)]) (fun (_ : Unit) (_ : Int) => []) h () (.o2 R (.one R (.nil _))) R (fun rec1 K1 next1 _ x11 h => ?_)
     unfold ref15_Valid.b1 at h
     refine qX <| sr <| mv R R <| fd R R fo60_0 R <| fd R R fo38_1 R <| ld R R sh36 <| p1 R 63 R (vB R elS36) <| p2 R 60 R 64 R (qB R R) <| nt ?_
     refine qZ h R (fun hb261 h => ?_) (fun hb261 h => ?_)
     ·refine qK <| qq <| qX <| vy <| sr <| fd R R fo60_0 R <| fd R R fo38_1 R <| ld R R sh36 <| mv R R ?_
      obtain ⟨c262, h⟩ := qV h
      refine p2 R 70 R 71 R (vX R el36 R c262.1 c262.2) <| lS R R sh109 R R <| WL.w [] R (qQ R) R R .nil (w_alloc R z109 (l := [iA 0, iA 0, iA 0]) R) ?_
      rintro _ _ ⟨b263, rfl, rfl⟩
      refine WL.w0 [0] R (qQ R) R (.s 12 R (.s 73 R .nil)) (w_store (L := [iA ((rd a1.fGraph.fEdges x11).fType), iA ((rd a1.fGraph.fEdges x11).fFrom), iA ((rd a1.fGraph.fEdges x11).fTo)]) R sh109 (qj _) R R (leB R) R) ?_
      rintro _ _ ⟨rfl, rfl⟩
      refine qz <| QN.to (StTo.still [0] 12 R R) <| qw (env' := [(12, _), (11, _), (3, _), (2, _)]) (.o4 R (.nil _)) <| qq <| qX <| sr <| fd R R fo109_0 R <| ld R R sh3 <| fd R R fo35_1 R <| ld R R sh33 <| p1 R 77 R (vB R elS33) <| p2 R 75 R 78 R (qB R R) ?_
      refine nt ?_
      refine qZ h R (fun hb264 h => ?_) (fun hb264 h => ?_)
      ·refine sr <| mv R R <| av R R <| ak R <| qz <| qw (env' := [(5, _), (4, _)]) (.o2 R (.nil _)) <| qq <| vq <| qy <| vj <| qy <| qy ?_
       refine vj <| qy ?_
       cases h
       exact QR.f2 R R (.t R) (.t R) (.id _)
      ·refine qK <| qq <| qX <| W.drawK [(0, false), (1, false), (2, false), (3, false), (4, false), (5, false), (6, false), (7, false), (8, false), (9, false), (10, false), (11, false), (12, false), (13, false), (14, false), (15, false), (16, false), (17, false), (18, false)] [] (bm [0, 0, 2, 0, 8, 24, 0, 64, 248, 504, 0, 1024, 3072, 0, 8192, 31744, 64512, 131071, 262143]) mx (by kernel_rfl) <| qx R R (.p R (.s 2 R .nil) R (q_loadS R sh35 (leB R) R)) <| df R R R fo109_0 R <| dl R R R sh3 <| df R R R fo60_0 R <| df R R R fo38_0 R <| dl R R R sh26 <| df R R R fo109_1 R <| dl R R R sh3 ?_
       obtain ⟨c271, h⟩ := qV h
       refine qx R R (.p R (.s 86 R (.s 88 R .nil)) R (vX R el26 R c271.1 c271.2)) <| dl R R R sh3 <| df R R R fo60_0 R <| df R R R fo38_0 R <| dl R R R sh26 <| df R R R fo109_2 R <| dl R R R sh3 ?_
       obtain ⟨c272, h⟩ := qV h
       refine qx R R (.p R (.s 93 R (.s 95 R .nil)) R (vX R el26 R c272.1 c272.2)) <| dl R R R sh3 ?_
       obtain ⟨t273, ht273, h⟩ := vx h
       refine qx R R (.p R (.s 81 R (.s 83 R (.s 90 R (.s 97 R .nil)))) R (vQ (f := 89) (A := bA t273) (xs := [.tmp 81, .tmp 83, .tmp 90, .tmp 97]) («as» := [AggA [SlcA kNodeType a0.fNodes, SlcA kEdgeType a0.fEdges], iA ((rd a1.fGraph.fEdges x11).fType), iA (rd a1.fGraph.fNodes ((rd a1.fGraph.fEdges x11).fFrom)), iA (rd a1.fGraph.fNodes ((rd a1.fGraph.fEdges x11).fTo))]) R ca89 (ref04_Fits.con k a0 ((rd a1.fGraph.fEdges x11).fType) (rd a1.fGraph.fNodes ((rd a1.fGraph.fEdges x11).fFrom)) (rd a1.fGraph.fNodes ((rd a1.fGraph.fEdges x11).fTo)) t273 ht273) R)) <| qx R R (.p R (.s 98 R .nil) R (q_not R)) <| DK.nil <| CSteps.nil <| qw (env' := [(99, _), (11, _), (3, _), (2, _)]) (.o4 R (.nil _)) <| qq ?_
       refine qZ h R (fun hb274 h => ?_) (fun hb274 h => ?_)
       ·refine sr <| mv R R <| av R R <| ak R <| nt <| vq <| vj <| qy <| qy <| vj <| qy ?_
        cases h
        exact QR.f2 R R (.t R) (.t R) (.id _)
       ·refine qK <| vJ <| qq <| qJ <| mv R R ?_
        obtain ⟨c275, h⟩ := qV h
        refine pk R 66 R (vV R c275) <| av R R <| qz ?_
        exact next1 () (x11 + 1) _ h (.o2 R (.one R (.nil _)))
     ·refine bz <| qN <| qN <| bq <| qw (env' := []) (.nil _) <| qq <| sr <| ak R <| ak R <| nt <| vq ?_
      cases h
      exact QR.f2 R R (.t R) (.t R) (.id _)
theorem ref21_given.con (k : Nat) (a0 : Types) (a1 : Pattern) (a2 : Host) (r : Int) (h : ref21_given k a0 a1 a2 = some r) : Con Tryz.prog 75 [] [AggA [SlcA kNodeType a0.fNodes, SlcA kEdgeType a0.fEdges], AggA [SlcA kInt a1.fGraph.fNodes, SlcA kEdge a1.fGraph.fEdges, SlcA kSlot a1.fSlots, iA a1.fVars, SlcA kTest a1.fTests], AggA [SlcA kInt a2.fGraph.fNodes, SlcA kEdge a2.fGraph.fEdges, SlcA (kSl kInt) a2.fValues]] (RA (iA r)) := by
 unfold ref21_given at h
 refine vZ (N := 23) Tryz.func75 R R R fun w0_ fg_ => sr <| p1 R 0 R (bx R (qj _)) <| p1 R 1 R (bx R (qj _)) <| p1 R 2 R (bx R (qj _)) <| ak R <| nt <| qX <| sr <| lS R R sh35 R R ?_
 refine lS R R sh42 R R ?_
 obtain ⟨t100, ht100, h⟩ := vx h
 refine p2 R 10 R 11 R (vQ (f := 19) (A := iA t100) (xs := [.tmp 10, .tmp 11]) («as» := [AggA [SlcA kNodeType a0.fNodes, SlcA kEdgeType a0.fEdges], AggA [SlcA kInt a1.fGraph.fNodes, SlcA kEdge a1.fGraph.fEdges, SlcA kSlot a1.fSlots, iA a1.fVars, SlcA kTest a1.fTests]]) R ca19 (ref21_Valid.con k a0 a1 t100 ht100) R) <| av R R <| qz <| qw (env' := [(7, _), (5, _), (3, _)]) (.o2 R (.one R (.nil _))) <| qq <| sr <| mv R R <| pk R 13 R (qB R R) <| nt ?_
 refine qZ h R (fun hb101 h => ?_) (fun hb101 h => ?_)
 ·refine sr <| mv R R <| av R R <| nt <| vq <| qy ?_
  cases h
  exact vW R R (.t R) (.id _)
 ·refine qK <| qq <| sr <| lS R R sh35 R R <| lS R R sh60 R R ?_
  obtain ⟨t102, ht102, h⟩ := vx h
  refine p2 R 17 R 18 R (vQ (f := 36) (A := TupA [iA t102.1, iA t102.2]) (xs := [.tmp 17, .tmp 18]) («as» := [AggA [SlcA kNodeType a0.fNodes, SlcA kEdgeType a0.fEdges], AggA [SlcA kInt a2.fGraph.fNodes, SlcA kEdge a2.fGraph.fEdges, SlcA (kSl kInt) a2.fValues]]) R ca36 (ref15_Valid.con k a0 a2 t102 ht102) R) <| mv R R <| p1 R 16 R (vK R R) <| p1 R 16 R (vK R R) <| av R R <| av R R <| qz <| qw (env' := [(9, _)]) (.one R (.nil _)) <| qq <| sr <| mv R R <| av R R ?_
  refine nt <| vq ?_
  cases h
  exact vW R R (.t R) (.id _)
theorem ref17_open.con (k : Nat) (a0 : Graph) (r : Morphism) (h : ref17_open k a0 = some r) : Con Tryz.prog 127 [] [AggA [SlcA kInt a0.fNodes, SlcA kEdge a0.fEdges]] (RA (AggA [SlcA kInt r.fNodes, SlcA kInt r.fEdges])) := by
 unfold ref17_open at h
 refine vZ (N := 38) Tryz.func127 R R R fun w0_ fg_ => sr <| p1 R 0 R (bx R (qj _)) <| WL.w [] R (qQ R) R R .nil (w_alloc R z64 (l := [EqA (.slice none 0 0), EqA (.slice none 0 0)]) R) ?_
 rintro _ _ ⟨b100, rfl, rfl⟩
 refine nt <| qX ?_
 refine W.jn0 (Γ := (Value × Value)) (fun (g111 : (Value × Value)) => [(2, EqA (.pointer (some ⟨b100, 0, none⟩))), (3, PtrA [HdA g111.1, HdA g111.2])]) (fun (g111 : (Value × Value)) => [BoxE b100 [EqA (.slice none 0 0), EqA (.slice none 0 0)], SlE 3 g111.1 kInt (List.replicate ((a0.fNodes.length : Int) : Int).toNat (0 : Int)), SlE 3 g111.2 kInt (List.replicate ((a0.fEdges.length : Int) : Int).toNat (0 : Int))]) h (fun g111 h => ?_) (fun j116 Kj116 h => ?_)
 ·refine qq <| qX <| sr <| ak R <| nt <| vy ?_
  refine W.loop2 (Γ := Unit) (fun (_ : Unit) (_ : (List Int)) (x4 : Int) => [(2, EqA (.pointer (some ⟨b100, 0, none⟩))), (3, PtrA [HdA g111.1, HdA g111.2]), (4, iA x4)]) (fun (_ : Unit) (x3_0 : (List Int)) (_ : Int) => [BoxE b100 [EqA (.slice none 0 0), EqA (.slice none 0 0)], SlE 3 g111.1 kInt x3_0, SlE 3 g111.2 kInt (List.replicate ((a0.fEdges.length : Int) : Int).toNat (0 : Int))]) h () (.o2 R (.one R (.nil _))) R (fun rec0 K0 next0 _ x3_0 x4 h => ?_)
  unfold ref17_open.b0 at h
  refine qX <| sr <| mv R R <| fd R R fo64_0 R <| ld R R sh26 <| WL.q (qQ R) R R (.s 17 R .nil) (q_lenO R elS26 (i := 1) R) <| p2 R 15 R 18 R (qB R R) <| nt ?_
  refine qZ h R (fun hb141 h => ?_) (fun hb141 h => ?_)
  ·refine qK <| qq <| qX <| vy <| qJ <| fd R R fo64_0 R <| ld R R sh26 <| mv R R ?_
   obtain ⟨c142, h⟩ := qV h
   refine WL.q (qQ R) R R (.s 23 R (.s 24 R .nil)) (q_indexO R el26 (j := 1) R c142.1 c142.2) <| WL.w0 [1] R (qQ R) R (.s 25 R (.k .nil)) (w_storeEl (kd := kInt) (z := (-1)) R sh3 (qW R) R R R c142.1 c142.2 R R) ?_
   rintro _ _ ⟨rfl, rfl⟩
   refine qz <| vJ <| qw (env' := [(4, _), (3, _), (2, _)]) (.o2 R (.one R (.nil _))) <| qq <| qJ <| mv R R ?_
   obtain ⟨c143, h⟩ := qV h
   refine pk R 20 R (vV R c143) <| av R R <| qz <| QN.order [1, 0, 0] R ?_
   exact next0 () (x3_0.set (x4 : Int).toNat (-1)) (x4 + 1) _ h (.o2 R (.one R (.nil _)))
  ·refine bz <| qN <| qN <| bq <| qq <| qX <| sr <| ak R <| nt <| vy ?_
   refine W.loop2 (Γ := Unit) (fun (_ : Unit) (_ : (List Int)) (x5 : Int) => [(2, EqA (.pointer (some ⟨b100, 0, none⟩))), (3, PtrA [HdA g111.1, HdA g111.2]), (5, iA x5)]) (fun (_ : Unit) (x3_1 : (List Int)) (_ : Int) => [BoxE b100 [EqA (.slice none 0 0), EqA (.slice none 0 0)], SlE 3 g111.1 kInt x3_0, SlE 3 g111.2 kInt x3_1]) h () (.o2 R (.one R (.nil _))) R (fun rec1 K1 next1 _ x3_1 x5 h => ?_)
   unfold ref17_open.b1 at h
   refine qX <| sr <| mv R R <| fd R R fo64_1 R <| ld R R sh26 <| WL.q (qQ R) R R (.s 28 R .nil) (q_lenO R elS26 (i := 2) R) <| p2 R 26 R 29 R (qB R R) <| nt ?_
   refine qZ h R (fun hb150 h => ?_) (fun hb150 h => ?_)
   ·refine qK <| qq <| qX <| vy <| qJ <| fd R R fo64_1 R <| ld R R sh26 <| mv R R ?_
    obtain ⟨c151, h⟩ := qV h
    refine WL.q (qQ R) R R (.s 34 R (.s 35 R .nil)) (q_indexO R el26 (j := 2) R c151.1 c151.2) <| WL.w0 [2] R (qQ R) R (.s 36 R (.k .nil)) (w_storeEl (kd := kInt) (z := (-1)) R sh3 (qW R) R R R c151.1 c151.2 R R) ?_
    rintro _ _ ⟨rfl, rfl⟩
    refine qz <| vJ <| qw (env' := [(5, _), (3, _), (2, _)]) (.o2 R (.one R (.nil _))) <| qq <| qJ <| mv R R ?_
    obtain ⟨c152, h⟩ := qV h
    refine pk R 31 R (vV R c152) <| av R R <| qz <| QN.order [1, 1, 0] R ?_
    exact next1 () (x3_1.set (x5 : Int).toNat (-1)) (x5 + 1) _ h (.o2 R (.one R (.nil _)))
   ·refine bz <| qN <| qN <| bq <| qq <| sr <| lS R R sh64 R R <| WL.w0 [0] R (qQ R) R (.s 2 R (.s 37 R .nil)) (w_store (L := [HdA g111.1, HdA g111.2]) R sh64 (qj _) R R (leB R) R) ?_
    rintro _ _ ⟨rfl, rfl⟩
    refine qz <| QN.to (StTo.still [0] 2 R R) <| qw (env' := [(2, _)]) (.one R (.nil _)) <| qq <| vq ?_
    cases h
    exact vW R R (.ps R sh64 R) (.agg (.cons (.slc 0 R) (.cons (.slc 1 R) .nil)))
 ·refine W.drawKT [(0, false), (1, false), (2, false), (4, false), (5, false), (6, false)] [3, 7, 8, 9, 10] [3, 7, 8, 9] 5 [[], [0], [0, 1], [0, 1, 2], [], [4], [4, 5], [4, 5, 6], [0, 1, 2, 3, 4, 5, 6, 7], [], [0, 1, 2, 3, 4, 5, 6, 7, 8, 9]] mx (by kernel_rfl) <| DKT.cons R R (.p R (.s 1 R .nil) R (q_field R fo38_0 R)) <| DKT.cons R R (.p R (.s 6 R .nil) R (q_load R sh26)) <| DKT.cons R R (.p R (.s 7 R .nil) R (vB R elS26)) ?_
  obtain ⟨c153, h⟩ := qV h
  refine DKT.cons R R (.p R (.s 1 R .nil) R (q_field R fo38_1 R)) <| DKT.cons R R (.p R (.s 10 R .nil) R (q_load R sh36)) <| DKT.cons R R (.p R (.s 11 R .nil) R (vB R elS36)) ?_
  obtain ⟨c155, h⟩ := qV h
  refine DKT.nil <| CT.step ?_
  refine CTc.yes R ?_ ?_
  ·refine CStep1.w [] (fun _ => R) R R R R (.s 8 R (.s 8 R .nil)) R (w_make (kd := kInt) (z := (0 : Int)) R el26 R gr3 z3 R c153.1 c153.2) ?_
   rintro _ _ ⟨v154, rfl, rfl⟩
   refine CT.list (l' := [7, 8, 9, 10]) R <| CT.step ?_
   refine CTc.yes R ?_ ?_
   ·refine CStep1.w [] (fun _ => R) R R R R (.s 12 R (.s 12 R .nil)) R (w_make (kd := kInt) (z := (0 : Int)) R el26 R gr3 z3 R c155.1 c155.2) ?_
    rintro _ _ ⟨v156, rfl, rfl⟩
    refine CT.list (l' := [8, 9, 10]) R <| CT.step ?_
    refine CTc.yes R ?_ ?_
    ·refine CStep1.p R R R (.s 9 R (.s 13 R .nil)) R (q_build (is := [0, 1]) (xs := [.tmp 9, .tmp 13]) (L := [HdA v154, HdA v156]) R R z64 pl64 R R (.cons (qW R) (.cons (qW R) .nil)) R) <| CT.list (l' := [9, 10]) R <| CT.step ?_
     refine CTc.yes R ?_ ?_
     ·refine CStep1.w [] (fun _ => R) R R R R .nil R (w_alloc R z64 (l := [EqA (.slice none 0 0), EqA (.slice none 0 0)]) R) ?_
      rintro _ _ ⟨b157, rfl, rfl⟩
      refine CT.list (l' := [10]) R <| CT.step ?_
      refine CTc.yes R ?_ ?_
      ·refine CStep1.w0 [0] (fun h => absurd h (by decide)) R R R (.s 3 R (.s 14 R .nil)) R (w_store (L := [HdA v154, HdA v156]) R sh64 (qj _) R R (leB R) R) ?_
       rintro _ _ ⟨rfl, rfl⟩
       refine CT.list (l' := []) R <| CT.nil <| QN.to (StTo.still [0] 3 R R) <| QN.order [2, 1, 0] R ?_
       exact qw (.o2 R (.nil _)) (Kj116 (v154, v156) h)
      exact CTc.end
     refine CTc.no R ?_
     exact CTc.end
    refine CTc.yes R ?_ ?_
    ·refine CStep1.w [] (fun _ => R) R R R R .nil R (w_alloc R z64 (l := [EqA (.slice none 0 0), EqA (.slice none 0 0)]) R) ?_
     rintro _ _ ⟨b157, rfl, rfl⟩
     refine CT.list (l' := [8, 10]) R <| CT.step ?_
     refine CTc.yes R ?_ ?_
     ·refine CStep1.p R R R (.s 9 R (.s 13 R .nil)) R (q_build (is := [0, 1]) (xs := [.tmp 9, .tmp 13]) (L := [HdA v154, HdA v156]) R R z64 pl64 R R (.cons (qW R) (.cons (qW R) .nil)) R) <| CT.list (l' := [10]) R <| CT.step ?_
      refine CTc.yes R ?_ ?_
      ·refine CStep1.w0 [0] (fun h => absurd h (by decide)) R R R (.s 3 R (.s 14 R .nil)) R (w_store (L := [HdA v154, HdA v156]) R sh64 (qj _) R R (leB R) R) ?_
       rintro _ _ ⟨rfl, rfl⟩
       refine CT.list (l' := []) R <| CT.nil <| QN.to (StTo.still [0] 3 R R) <| QN.order [2, 1, 0] R ?_
       exact qw (.o2 R (.nil _)) (Kj116 (v154, v156) h)
      exact CTc.end
     refine CTc.no R ?_
     exact CTc.end
    refine CTc.no R ?_
    exact CTc.end
   refine CTc.no R ?_
   refine CTc.yes R ?_ ?_
   ·refine CStep1.w [] (fun _ => R) R R R R .nil R (w_alloc R z64 (l := [EqA (.slice none 0 0), EqA (.slice none 0 0)]) R) ?_
    rintro _ _ ⟨b157, rfl, rfl⟩
    refine CT.list (l' := [7, 8, 10]) R <| CT.step ?_
    refine CTc.yes R ?_ ?_
    ·refine CStep1.w [] (fun _ => R) R R R R (.s 12 R (.s 12 R .nil)) R (w_make (kd := kInt) (z := (0 : Int)) R el26 R gr3 z3 R c155.1 c155.2) ?_
     rintro _ _ ⟨v156, rfl, rfl⟩
     refine CT.list (l' := [8, 10]) R <| CT.step ?_
     refine CTc.yes R ?_ ?_
     ·refine CStep1.p R R R (.s 9 R (.s 13 R .nil)) R (q_build (is := [0, 1]) (xs := [.tmp 9, .tmp 13]) (L := [HdA v154, HdA v156]) R R z64 pl64 R R (.cons (qW R) (.cons (qW R) .nil)) R) <| CT.list (l' := [10]) R <| CT.step ?_
      refine CTc.yes R ?_ ?_
      ·refine CStep1.w0 [1] (fun h => absurd h (by decide)) R R R (.s 3 R (.s 14 R .nil)) R (w_store (L := [HdA v154, HdA v156]) R sh64 (qj _) R R (leB R) R) ?_
       rintro _ _ ⟨rfl, rfl⟩
       refine CT.list (l' := []) R <| CT.nil <| QN.to (StTo.still [0] 3 R R) <| QN.order [2, 1, 0] R ?_
       exact qw (.o2 R (.nil _)) (Kj116 (v154, v156) h)
      exact CTc.end
     refine CTc.no R ?_
     exact CTc.end
    refine CTc.no R <| CTc.no R ?_
    exact CTc.end
   refine CTc.no R ?_
   exact CTc.end
  refine CTc.yes R ?_ ?_
  ·refine CStep1.w [] (fun _ => R) R R R R (.s 12 R (.s 12 R .nil)) R (w_make (kd := kInt) (z := (0 : Int)) R el26 R gr3 z3 R c155.1 c155.2) ?_
   rintro _ _ ⟨v156, rfl, rfl⟩
   refine CT.list (l' := [3, 8, 9, 10]) R <| CT.step ?_
   refine CTc.yes R ?_ ?_
   ·refine CStep1.w [] (fun _ => R) R R R R (.s 8 R (.s 8 R .nil)) R (w_make (kd := kInt) (z := (0 : Int)) R el26 R gr3 z3 R c153.1 c153.2) ?_
    rintro _ _ ⟨v154, rfl, rfl⟩
    refine CT.list (l' := [8, 9, 10]) R <| CT.step ?_
    refine CTc.yes R ?_ ?_
    ·refine CStep1.p R R R (.s 9 R (.s 13 R .nil)) R (q_build (is := [0, 1]) (xs := [.tmp 9, .tmp 13]) (L := [HdA v154, HdA v156]) R R z64 pl64 R R (.cons (qW R) (.cons (qW R) .nil)) R) <| CT.list (l' := [9, 10]) R <| CT.step ?_
     refine CTc.yes R ?_ ?_
     ·refine CStep1.w [] (fun _ => R) R R R R .nil R (w_alloc R z64 (l := [EqA (.slice none 0 0), EqA (.slice none 0 0)]) R) ?_
      rintro _ _ ⟨b157, rfl, rfl⟩
      refine CT.list (l' := [10]) R <| CT.step ?_
      refine CTc.yes R ?_ ?_
      ·refine CStep1.w0 [0] (fun h => absurd h (by decide)) R R R (.s 3 R (.s 14 R .nil)) R (w_store (L := [HdA v154, HdA v156]) R sh64 (qj _) R R (leB R) R) ?_
       rintro _ _ ⟨rfl, rfl⟩
       refine CT.list (l' := []) R <| CT.nil <| QN.to (StTo.still [0] 3 R R) <| QN.order [2, 0, 0] R ?_
       exact qw (.o2 R (.nil _)) (Kj116 (v154, v156) h)
      exact CTc.end
     refine CTc.no R ?_
     exact CTc.end
    refine CTc.yes R ?_ ?_
    ·refine CStep1.w [] (fun _ => R) R R R R .nil R (w_alloc R z64 (l := [EqA (.slice none 0 0), EqA (.slice none 0 0)]) R) ?_
     rintro _ _ ⟨b157, rfl, rfl⟩
     refine CT.list (l' := [8, 10]) R <| CT.step ?_
     refine CTc.yes R ?_ ?_
     ·refine CStep1.p R R R (.s 9 R (.s 13 R .nil)) R (q_build (is := [0, 1]) (xs := [.tmp 9, .tmp 13]) (L := [HdA v154, HdA v156]) R R z64 pl64 R R (.cons (qW R) (.cons (qW R) .nil)) R) <| CT.list (l' := [10]) R <| CT.step ?_
      refine CTc.yes R ?_ ?_
      ·refine CStep1.w0 [0] (fun h => absurd h (by decide)) R R R (.s 3 R (.s 14 R .nil)) R (w_store (L := [HdA v154, HdA v156]) R sh64 (qj _) R R (leB R) R) ?_
       rintro _ _ ⟨rfl, rfl⟩
       refine CT.list (l' := []) R <| CT.nil <| QN.to (StTo.still [0] 3 R R) <| QN.order [2, 0, 0] R ?_
       exact qw (.o2 R (.nil _)) (Kj116 (v154, v156) h)
      exact CTc.end
     refine CTc.no R ?_
     exact CTc.end
    refine CTc.no R ?_
    exact CTc.end
   refine CTc.no R ?_
   refine CTc.yes R ?_ ?_
   ·refine CStep1.w [] (fun _ => R) R R R R .nil R (w_alloc R z64 (l := [EqA (.slice none 0 0), EqA (.slice none 0 0)]) R) ?_
    rintro _ _ ⟨b157, rfl, rfl⟩
    refine CT.list (l' := [3, 8, 10]) R <| CT.step ?_
    refine CTc.yes R ?_ ?_
    ·refine CStep1.w [] (fun _ => R) R R R R (.s 8 R (.s 8 R .nil)) R (w_make (kd := kInt) (z := (0 : Int)) R el26 R gr3 z3 R c153.1 c153.2) ?_
     rintro _ _ ⟨v154, rfl, rfl⟩
     refine CT.list (l' := [8, 10]) R <| CT.step ?_
     refine CTc.yes R ?_ ?_
     ·refine CStep1.p R R R (.s 9 R (.s 13 R .nil)) R (q_build (is := [0, 1]) (xs := [.tmp 9, .tmp 13]) (L := [HdA v154, HdA v156]) R R z64 pl64 R R (.cons (qW R) (.cons (qW R) .nil)) R) <| CT.list (l' := [10]) R <| CT.step ?_
      refine CTc.yes R ?_ ?_
      ·refine CStep1.w0 [1] (fun h => absurd h (by decide)) R R R (.s 3 R (.s 14 R .nil)) R (w_store (L := [HdA v154, HdA v156]) R sh64 (qj _) R R (leB R) R) ?_
       rintro _ _ ⟨rfl, rfl⟩
       refine CT.list (l' := []) R <| CT.nil <| QN.to (StTo.still [0] 3 R R) <| QN.order [2, 0, 0] R ?_
       exact qw (.o2 R (.nil _)) (Kj116 (v154, v156) h)
      exact CTc.end
     refine CTc.no R ?_
     exact CTc.end
    refine CTc.no R <| CTc.no R ?_
    exact CTc.end
   refine CTc.no R ?_
   exact CTc.end
  refine CTc.no R ?_
  refine CTc.yes R ?_ ?_
  ·refine CStep1.w [] (fun _ => R) R R R R .nil R (w_alloc R z64 (l := [EqA (.slice none 0 0), EqA (.slice none 0 0)]) R) ?_
   rintro _ _ ⟨b157, rfl, rfl⟩
   refine CT.list (l' := [3, 7, 8, 10]) R <| CT.step ?_
   refine CTc.yes R ?_ ?_
   ·refine CStep1.w [] (fun _ => R) R R R R (.s 8 R (.s 8 R .nil)) R (w_make (kd := kInt) (z := (0 : Int)) R el26 R gr3 z3 R c153.1 c153.2) ?_
    rintro _ _ ⟨v154, rfl, rfl⟩
    refine CT.list (l' := [7, 8, 10]) R <| CT.step ?_
    refine CTc.yes R ?_ ?_
    ·refine CStep1.w [] (fun _ => R) R R R R (.s 12 R (.s 12 R .nil)) R (w_make (kd := kInt) (z := (0 : Int)) R el26 R gr3 z3 R c155.1 c155.2) ?_
     rintro _ _ ⟨v156, rfl, rfl⟩
     refine CT.list (l' := [8, 10]) R <| CT.step ?_
     refine CTc.yes R ?_ ?_
     ·refine CStep1.p R R R (.s 9 R (.s 13 R .nil)) R (q_build (is := [0, 1]) (xs := [.tmp 9, .tmp 13]) (L := [HdA v154, HdA v156]) R R z64 pl64 R R (.cons (qW R) (.cons (qW R) .nil)) R) <| CT.list (l' := [10]) R <| CT.step ?_
      refine CTc.yes R ?_ ?_
      ·refine CStep1.w0 [2] (fun h => absurd h (by decide)) R R R (.s 3 R (.s 14 R .nil)) R (w_store (L := [HdA v154, HdA v156]) R sh64 (qj _) R R (leB R) R) ?_
       rintro _ _ ⟨rfl, rfl⟩
       refine CT.list (l' := []) R <| CT.nil <| QN.to (StTo.still [0] 3 R R) <| QN.order [2, 1, 0] R ?_
       exact qw (.o2 R (.nil _)) (Kj116 (v154, v156) h)
      exact CTc.end
     refine CTc.no R ?_
     exact CTc.end
    refine CTc.no R <| CTc.no R ?_
    exact CTc.end
   refine CTc.yes R ?_ ?_
   ·refine CStep1.w [] (fun _ => R) R R R R (.s 12 R (.s 12 R .nil)) R (w_make (kd := kInt) (z := (0 : Int)) R el26 R gr3 z3 R c155.1 c155.2) ?_
    rintro _ _ ⟨v156, rfl, rfl⟩
    refine CT.list (l' := [3, 8, 10]) R <| CT.step ?_
    refine CTc.yes R ?_ ?_
    ·refine CStep1.w [] (fun _ => R) R R R R (.s 8 R (.s 8 R .nil)) R (w_make (kd := kInt) (z := (0 : Int)) R el26 R gr3 z3 R c153.1 c153.2) ?_
     rintro _ _ ⟨v154, rfl, rfl⟩
     refine CT.list (l' := [8, 10]) R <| CT.step ?_
     refine CTc.yes R ?_ ?_
     ·refine CStep1.p R R R (.s 9 R (.s 13 R .nil)) R (q_build (is := [0, 1]) (xs := [.tmp 9, .tmp 13]) (L := [HdA v154, HdA v156]) R R z64 pl64 R R (.cons (qW R) (.cons (qW R) .nil)) R) <| CT.list (l' := [10]) R <| CT.step ?_
      refine CTc.yes R ?_ ?_
      ·refine CStep1.w0 [2] (fun h => absurd h (by decide)) R R R (.s 3 R (.s 14 R .nil)) R (w_store (L := [HdA v154, HdA v156]) R sh64 (qj _) R R (leB R) R) ?_
       rintro _ _ ⟨rfl, rfl⟩
       refine CT.list (l' := []) R <| CT.nil <| QN.to (StTo.still [0] 3 R R) <| QN.order [2, 0, 0] R ?_
       exact qw (.o2 R (.nil _)) (Kj116 (v154, v156) h)
      exact CTc.end
     refine CTc.no R ?_
     exact CTc.end
    refine CTc.no R <| CTc.no R ?_
    exact CTc.end
   refine CTc.no R <| CTc.no R ?_
   exact CTc.end
  refine CTc.no R ?_
  exact CTc.end
theorem ref17_search_fits.con (k : Nat) (a0 : Search) (a1 : (List Int)) (r : Bool) (h : ref17_search_fits k a0 a1 = some r) : Con Tryz.prog 192 [] [PtrA [SlcA kNodeType a0.ft.fNodes, SlcA kEdgeType a0.ft.fEdges, SlcA kInt a0.fp.fNodes, SlcA kEdge a0.fp.fEdges, SlcA kInt a0.fg.fNodes, SlcA kEdge a0.fg.fEdges, SlcA kInt a0.fpartial.fNodes, SlcA kInt a0.fpartial.fEdges, bA a0.finjective, iA a0.fmost, SlcA kMorphism a0.ffound], SlcA kInt a1] (RA (bA r)) := by
 unfold ref17_search_fits at h
 refine vZ (N := 88) Tryz.func192 R R R fun w0_ fg_ => sr <| ak R <| nt <| qX <| sr <| ak R <| nt <| vy ?_
 refine W.loop1 (Γ := Unit) (fun (_ : Unit) (x5 : Int) => [(0, PtrA [SlcA kNodeType a0.ft.fNodes, SlcA kEdgeType a0.ft.fEdges, SlcA kInt a0.fp.fNodes, SlcA kEdge a0.fp.fEdges, SlcA kInt a0.fg.fNodes, SlcA kEdge a0.fg.fEdges, SlcA kInt a0.fpartial.fNodes, SlcA kInt a0.fpartial.fEdges, bA a0.finjective, iA a0.fmost, SlcA kMorphism a0.ffound]), (1, SlcA kInt a1), (5, iA x5)]) (fun (_ : Unit) (_ : Int) => []) h () (.o2 R (.one R (.nil _))) R (fun rec0 K0 next0 _ x5 h => ?_)
 unfold ref17_search_fits.b0 at h
 refine qX <| sr <| mv R R <| mv R R <| p1 R 11 R (q_nilCheck R) <| fd R R fo218_1 R <| fd R R fo38_1 R <| ld R R sh36 <| p1 R 15 R (vB R elS36) <| p2 R 10 R 16 R (qB R R) <| qz <| qw (env' := [(17, _), (5, _), (1, _), (0, _)]) (.o4 R (.nil _)) ?_
 refine qq ?_
 refine qZ h R (fun hb384 h => ?_) (fun hb384 h => ?_)
 ·refine qK <| qq <| qX <| vy <| sr <| mv R R <| p1 R 20 R (q_nilCheck R) <| fd R R fo218_1 R <| fd R R fo38_1 R <| ld R R sh36 <| mv R R ?_
  obtain ⟨c454, h⟩ := qV h
  refine p2 R 24 R 25 R (vX R el36 R c454.1 c454.2) <| lS R R sh109 R R <| WL.w [] R (qQ R) R R .nil (w_alloc R z109 (l := [iA 0, iA 0, iA 0]) R) ?_
  rintro _ _ ⟨b455, rfl, rfl⟩
  refine WL.w0 [0] R (qQ R) R (.s 6 R (.s 27 R .nil)) (w_store (L := [iA ((rd a0.fp.fEdges x5).fType), iA ((rd a0.fp.fEdges x5).fFrom), iA ((rd a0.fp.fEdges x5).fTo)]) R sh109 (qj _) R R (leB R) R) ?_
  rintro _ _ ⟨rfl, rfl⟩
  refine qz <| QN.to (StTo.still [0] 6 R R) <| qw (env' := [(6, _), (5, _), (1, _), (0, _)]) (.o4 R (.nil _)) <| qq <| qX <| qX ?_
  refine W.jn1 (Γ := Unit) (fun (_ : Unit) (x39 : Bool) => [(0, PtrA [SlcA kNodeType a0.ft.fNodes, SlcA kEdgeType a0.ft.fEdges, SlcA kInt a0.fp.fNodes, SlcA kEdge a0.fp.fEdges, SlcA kInt a0.fg.fNodes, SlcA kEdge a0.fg.fEdges, SlcA kInt a0.fpartial.fNodes, SlcA kInt a0.fpartial.fEdges, bA a0.finjective, iA a0.fmost, SlcA kMorphism a0.ffound]), (1, SlcA kInt a1), (5, iA x5), (6, PtrA [iA ((rd a0.fp.fEdges x5).fType), iA ((rd a0.fp.fEdges x5).fFrom), iA ((rd a0.fp.fEdges x5).fTo)]), (39, bA x39)]) (fun (_ : Unit) (_ : Bool) => []) h (fun _ x39 h => ?_) (fun j458 Kj458 h => ?_)
  ·refine qq ?_
   refine qZ h R (fun hb459 h => ?_) (fun hb459 h => ?_)
   ·refine bz <| qN <| bq <| qq <| qJ <| mv R R ?_
    obtain ⟨c460, h⟩ := qV h
    refine pk R 18 R (vV R c460) <| av R R <| qz ?_
    exact next0 () (x5 + 1) _ h (.o2 R (.one R (.nil _)))
   ·refine qK <| qq <| sr <| ak R <| nt <| qX <| sr <| ak R <| nt ?_
    refine vy ?_
    refine W.loop2 (Γ := Unit) (fun (_ : Unit) (x7 : Bool) (x8 : Int) => [(0, PtrA [SlcA kNodeType a0.ft.fNodes, SlcA kEdgeType a0.ft.fEdges, SlcA kInt a0.fp.fNodes, SlcA kEdge a0.fp.fEdges, SlcA kInt a0.fg.fNodes, SlcA kEdge a0.fg.fEdges, SlcA kInt a0.fpartial.fNodes, SlcA kInt a0.fpartial.fEdges, bA a0.finjective, iA a0.fmost, SlcA kMorphism a0.ffound]), (1, SlcA kInt a1), (5, iA x5), (6, PtrA [iA ((rd a0.fp.fEdges x5).fType), iA ((rd a0.fp.fEdges x5).fFrom), iA ((rd a0.fp.fEdges x5).fTo)]), (7, bA x7), (8, iA x8)]) (fun (_ : Unit) (_ : Bool) (_ : Int) => []) h () (.o4 R (.o2 R (.nil _))) R (fun rec1 K1 next1 _ x7 x8 h => ?_)
    unfold ref17_search_fits.b1 at h
    refine qX <| sr <| mv R R <| mv R R <| p1 R 41 R (q_nilCheck R) <| fd R R fo218_2 R <| fd R R fo38_1 R <| ld R R sh36 <| p1 R 45 R (vB R elS36) <| p2 R 40 R 46 R (qB R R) <| qz <| qw (env' := [(47, _), (8, _), (7, _), (6, _), (5, _), (1, _), (0, _)]) (.o4 R (.o2 R (.one R (.nil _)))) ?_
    refine qq ?_
    refine qZ h R (fun hb502 h => ?_) (fun hb502 h => ?_)
    ·refine qK <| qq <| qX <| vy <| sr <| mv R R <| p1 R 50 R (q_nilCheck R) <| fd R R fo218_2 R <| fd R R fo38_1 R <| ld R R sh36 <| mv R R ?_
     obtain ⟨c503, h⟩ := qV h
     refine p2 R 54 R 55 R (vX R el36 R c503.1 c503.2) <| lS R R sh109 R R <| WL.w [] R (qQ R) R R .nil (w_alloc R z109 (l := [iA 0, iA 0, iA 0]) R) ?_
     rintro _ _ ⟨b504, rfl, rfl⟩
     refine WL.w0 [0] R (qQ R) R (.s 9 R (.s 57 R .nil)) (w_store (L := [iA ((rd a0.fg.fEdges x8).fType), iA ((rd a0.fg.fEdges x8).fFrom), iA ((rd a0.fg.fEdges x8).fTo)]) R sh109 (qj _) R R (leB R) R) ?_
     rintro _ _ ⟨rfl, rfl⟩
     refine qz <| QN.to (StTo.still [0] 9 R R) <| qw (env' := [(9, _), (8, _), (7, _), (6, _), (5, _), (1, _), (0, _)]) (.o4 R (.o2 R (.one R (.nil _)))) <| qq ?_
     refine W.jn1 (Γ := Unit) (fun (_ : Unit) (x7' : Bool) => [(0, PtrA [SlcA kNodeType a0.ft.fNodes, SlcA kEdgeType a0.ft.fEdges, SlcA kInt a0.fp.fNodes, SlcA kEdge a0.fp.fEdges, SlcA kInt a0.fg.fNodes, SlcA kEdge a0.fg.fEdges, SlcA kInt a0.fpartial.fNodes, SlcA kInt a0.fpartial.fEdges, bA a0.finjective, iA a0.fmost, SlcA kMorphism a0.ffound]), (1, SlcA kInt a1), (5, iA x5), (6, PtrA [iA ((rd a0.fp.fEdges x5).fType), iA ((rd a0.fp.fEdges x5).fFrom), iA ((rd a0.fp.fEdges x5).fTo)]), (8, iA x8), (7, bA x7')]) (fun (_ : Unit) (_ : Bool) => []) h (fun _ x7' h => ?_) (fun j516 Kj516 h => ?_)
     ·refine vJ <| qq <| qJ <| mv R R ?_
      obtain ⟨c517, h⟩ := qV h
      refine pk R 48 R (vV R c517) <| av R R <| qz ?_
      exact next1 () x7' (x8 + 1) _ h (.o4 R (.o2 R (.nil _)))
     ·refine W.drawK [(0, false), (1, false), (2, false), (3, false), (4, false), (5, false), (6, false), (7, false), (8, false), (9, false), (10, false), (11, false), (12, false), (13, false), (14, false), (15, false), (16, false), (17, false), (18, false), (19, false), (20, false), (21, false), (22, false), (23, false), (24, false), (25, false), (26, false), (27, false), (28, false)] [] (bm [0, 1, 3, 7, 3, 19, 63, 127, 255, 511, 255, 255, 2303, 7423, 15615, 32767, 65535, 131071, 262143, 524287, 262143, 262143, 2359295, 7602175, 15990783, 33554431, 67108863, 134217727, 268435455]) mx (by kernel_rfl) <| dm R R R <| dm R R R ?_
      rcases bif_s h with ⟨hb518, h⟩ | ⟨hb518, h⟩
      ·refine dx R R R hb518 <| dx R R R hb518 <| dx R R R hb518 <| dx R R R hb518 <| dx R R R hb518 <| dx R R R hb518 <| qx R R (.und R R R) <| qx R R (.und R R R) <| qx R R (.und R R R) <| qx R R (.und R R R) <| qx R R (.und R R R) <| qx R R (.und R R R) <| qx R R (.und R R R) ?_
       refine qx R R (.und R R R) <| dx R R R hb518 <| dx R R R hb518 <| qx R R (.und R R R) <| qx R R (.und R R R) <| qx R R (.und R R R) <| qx R R (.und R R R) <| qx R R (.und R R R) <| qx R R (.und R R R) <| qx R R (.und R R R) <| qx R R (.und R R R) <| dx R R R hb518 <| qx R R (.p R (.s 59 R (.k .nil)) R (vz R hb518)) ?_
       refine qx R R (.p R (.s 85 R .nil) R (q_assign R)) <| DK.nil <| CSteps.nil ?_
       exact qw (.o4 R (.o2 R (.nil _))) (Kj516 () true h)
      ·refine qx R R (.gp R R R hb518 (.s 6 R .nil) R (q_field R fo109_0 R)) <| qx R R (.gp R R R hb518 (.s 60 R .nil) R (q_load R sh3)) <| qx R R (.gp R R R hb518 (.s 9 R .nil) R (q_field R fo109_0 R)) <| qx R R (.gp R R R hb518 (.s 62 R .nil) R (q_load R sh3)) <| qx R R (.gp R R R hb518 (.s 61 R (.s 63 R .nil)) R (qB R R)) <| qx R R (.gp R R R hb518 (.s 64 R .nil) R (q_move R)) ?_
       rcases bif_s h with ⟨hb519, h⟩ | ⟨hb519, h⟩
       ·refine qx R R (.gp R R R hb519 (.s 9 R .nil) R (q_field R fo109_1 R)) <| qx R R (.gp R R R hb519 (.s 66 R .nil) R (q_load R sh3)) <| qx R R (.gp R R R hb519 (.s 1 R .nil) R (q_move R)) <| qx R R (.gp R R R hb519 (.s 6 R .nil) R (q_field R fo109_1 R)) <| qx R R (.gp R R R hb519 (.s 69 R .nil) R (q_load R sh3)) ?_
        obtain ⟨c520, h⟩ := qV h
        refine qx R R (.gp R R R hb519 (.s 68 R (.s 70 R .nil)) R (vX R el26 R c520.1 c520.2)) <| qx R R (.gp R R R hb519 (.s 71 R .nil) R (q_load R sh3)) <| qx R R (.gp R R R hb519 (.s 67 R (.s 72 R .nil)) R (qB R R)) <| qx R R (.gp R R R hb518 (.s 65 R (.s 73 R .nil)) R (vz R hb519)) <| qx R R (.gp R R R hb518 (.s 74 R .nil) R (q_move R)) ?_
        rcases bif_s h with ⟨hb521, h⟩ | ⟨hb521, h⟩
        ·refine qx R R (.gp R R R hb521 (.s 9 R .nil) R (q_field R fo109_2 R)) <| qx R R (.gp R R R hb521 (.s 76 R .nil) R (q_load R sh3)) <| qx R R (.gp R R R hb521 (.s 1 R .nil) R (q_move R)) <| qx R R (.gp R R R hb521 (.s 6 R .nil) R (q_field R fo109_2 R)) <| qx R R (.gp R R R hb521 (.s 79 R .nil) R (q_load R sh3)) ?_
         obtain ⟨c522, h⟩ := qV h
         refine qx R R (.gp R R R hb521 (.s 78 R (.s 80 R .nil)) R (vX R el26 R c522.1 c522.2)) <| qx R R (.gp R R R hb521 (.s 81 R .nil) R (q_load R sh3)) <| qx R R (.gp R R R hb521 (.s 77 R (.s 82 R .nil)) R (qB R R)) <| qx R R (.gp R R R hb518 (.s 75 R (.s 83 R .nil)) R (vz R hb521)) <| qx R R (.p R (.s 59 R (.s 84 R .nil)) R (vw R hb518)) <| qx R R (.p R (.s 85 R .nil) R (q_assign R)) <| DK.nil <| CSteps.nil ?_
         exact qw (.o4 R (.o2 R (.nil _))) (Kj516 () ((rd a0.fg.fEdges x8).fTo == (rd a1 ((rd a0.fp.fEdges x5).fTo))) h)
        ·refine dx R R R hb521 <| dx R R R hb521 <| dx R R R hb521 <| dx R R R hb521 <| dx R R R hb521 <| dx R R R hb521 <| dx R R R hb521 <| dx R R R hb521 <| qx R R (.gp R R R hb518 (.s 75 R (.k .nil)) R (vw R hb521)) <| qx R R (.p R (.s 59 R (.s 84 R .nil)) R (vw R hb518)) <| qx R R (.p R (.s 85 R .nil) R (q_assign R)) <| DK.nil <| CSteps.nil ?_
         exact qw (.o4 R (.o2 R (.nil _))) (Kj516 () false h)
       ·refine dx R R R hb519 <| dx R R R hb519 <| dx R R R hb519 <| dx R R R hb519 <| dx R R R hb519 <| dx R R R hb519 <| dx R R R hb519 <| dx R R R hb519 <| qx R R (.gp R R R hb518 (.s 65 R (.k .nil)) R (vw R hb519)) <| qx R R (.gp R R R hb518 (.s 74 R .nil) R (q_move R)) <| dx R R R R <| dx R R R R <| dx R R R R ?_
        refine dx R R R R <| dx R R R R <| dx R R R R <| dx R R R R <| dx R R R R <| qx R R (.gp R R R hb518 (.s 75 R (.k .nil)) R (vw R R)) <| qx R R (.p R (.s 59 R (.s 84 R .nil)) R (vw R hb518)) <| qx R R (.p R (.s 85 R .nil) R (q_assign R)) <| DK.nil <| CSteps.nil ?_
        exact qw (.o4 R (.o2 R (.nil _))) (Kj516 () false h)
    ·refine bz <| qN <| qN <| bq <| qq <| sr <| mv R R <| p1 R 86 R (q_not R) <| nt ?_
     refine qZ h R (fun hb523 h => ?_) (fun hb523 h => ?_)
     ·refine sr <| ak R <| qz <| qw (env' := [(4, _)]) (.one R (.nil _)) <| qq <| vq <| vj <| qy <| qy <| vj <| qy ?_
      cases h
      exact vW R R (.t R) (.id _)
     ·refine qK <| vJ <| qq <| qJ <| mv R R ?_
      obtain ⟨c524, h⟩ := qV h
      refine pk R 18 R (vV R c524) <| av R R <| qz ?_
      exact next0 () (x5 + 1) _ h (.o2 R (.one R (.nil _)))
  ·refine qJ <| fd R R fo109_1 R <| ld R R sh3 <| mv R R <| p1 R 30 R (vB R elS26) <| p2 R 29 R 31 R (qB R R) <| mv R R ?_
   rcases bif_s h with ⟨hb525, h⟩ | ⟨hb525, h⟩
   ·refine sk R R R hb525 <| sk R R R hb525 <| sk R R R hb525 <| sk R R R hb525 <| sk R R R hb525 <| pk R 33 R (vz R hb525) <| qz ?_
    exact qw (.o4 R (.one R (.nil _))) (Kj458 () true h)
   ·refine wf R R R hb525 R R fo109_2 R <| wl R R R hb525 R R sh3 <| wm R R R hb525 R R <| wq R R R hb525 (.s 36 R .nil) (vB R elS26).o <| wq R R R hb525 (.s 35 R (.s 37 R .nil)) (qB R R).o <| p2 R 33 R 38 R (vw R hb525) <| qz ?_
    exact qw (.o4 R (.one R (.nil _))) (Kj458 () (decide ((rd a0.fp.fEdges x5).fTo ≥ (a1.length : Int))) h)
 ·refine bz <| qN <| qN <| bq <| qq <| sr <| ak R <| nt <| vq ?_
  cases h
  exact vW R R (.t R) (.id _)
end Go.Proofs.YtcgdfjpeboiioaaGreat
