import Derived.Test.YtcgdfjpeboiioaaGreatGdC8
namespace Go.Proofs.YtcgdfjpeboiioaaGreat
open Go Go.Abs
attribute [local irreducible] Tryz.prog
theorem ref04_bound.con (k : Nat) (a0 : Int) (a1 : Int) (r : Bool) (h : ref04_bound k a0 a1 = some r) : Con Tryz.prog 154 [] [iA a0, iA a1] (RA (bA r)) := by
 unfold ref04_bound at h
 refine vZ (N := 16) Tryz.func154 R R R fun w0_ fg_ => sr <| ak R <| nt <| qX ?_
 refine W.jn1 (Γ := Unit) (fun (_ : Unit) (x4 : Bool) => [(4, bA x4)]) (fun (_ : Unit) (_ : Bool) => []) h (fun _ x4 h => ?_) (fun j105 Kj105 h => ?_)
 ·refine qq <| qN ?_
  cases h
  exact vW R R (.t R) (.id _)
 ·refine qJ <| mv R R ?_
  obtain ⟨t106, ht106, h⟩ := vw h
  refine WL.p R R R (.s 5 R (.k (.k .nil))) (vQ (f := 140) (A := bA t106) (xs := [.tmp 5, .const (.int .i64 0), .const (.int .i64 40)]) («as» := [iA a0, iA 0, iA 40]) R ca140 (ref04_in.con k a0 0 40 t106 ht106) R) <| mv R R ?_
  rcases bif_s h with ⟨hb107, h⟩ | ⟨hb107, h⟩
  ·refine wm R R R hb107 R R <| wq R R R hb107 (.s 8 R (.k .nil)) (qB R R).o <| wm R R R hb107 R R ?_
   rcases bif_s h with ⟨hb108, h⟩ | ⟨hb108, h⟩
   ·refine sk R R R hb108 <| sk R R R hb108 <| sk R R R hb108 <| wq R R R hb107 (.s 10 R (.k .nil)) (vy R hb108).o <| p2 R 7 R 14 R (vy R hb107) <| av R R <| qx ?_
    exact qw (.one R (.nil _)) (Kj105 () true h)
   ·refine wm R R R hb108 R R <| wm R R R hb108 R R ?_
    obtain ⟨t109, ht109, h⟩ := vw h
    refine wq R R R hb108 (.s 11 R (.s 12 R (.k .nil))) (vQ (f := 140) (A := bA t109) (xs := [.tmp 11, .tmp 12, .const (.int .i64 40)]) («as» := [iA a1, iA a0, iA 40]) R ca140 (ref04_in.con k a1 a0 40 t109 ht109) R).o <| wq R R R hb107 (.s 10 R (.s 13 R .nil)) (vz R hb108).o <| p2 R 7 R 14 R (vy R hb107) <| av R R <| qx ?_
    exact qw (.one R (.nil _)) (Kj105 () t109 h)
  ·refine sk R R R hb107 <| sk R R R hb107 <| sk R R R hb107 <| su R R R <| su R R R <| su R R R <| sk R R R hb107 <| pk R 7 R (vz R hb107) <| av R R <| qx ?_
   exact qw (.one R (.nil _)) (Kj105 () false h)
theorem ref04_edge.con (k : Nat) (a0 : Types) (a1 : Int) (r : Int) (h : ref04_edge k a0 a1 = some r) : Con Tryz.prog 112 [] [AggA [SlcA kNodeType a0.fNodes, SlcA kEdgeType a0.fEdges], iA a1] (RA (iA r)) := by
 unfold ref04_edge at h
 refine vZ (N := 63) Tryz.func112 R R R fun w0_ fg_ => sr <| p1 R 0 R (q_box R (qz _)) <| ak R <| nx <| fd R R fo35_1 R <| ld R R sh33 <| mv R R ?_
 obtain ⟨c100, h⟩ := qV h
 refine p2 R 9 R 10 R (vX R el33 R c100.1 c100.2) <| lS R R sh97 R R <| WL.w [] R (qj R) R R .nil (w_alloc R z97 (l := [EqA (strV ([] : Str)), iA 0, iA 0, iA 0, iA 0, iA 0, iA 0]) R) ?_
 rintro _ _ ⟨b101, rfl, rfl⟩
 refine WL.w0 [0] R (qj R) R (.s 5 R (.s 12 R .nil)) (w_store (L := [EqA (strV ((rd a0.fEdges a1).fName)), iA ((rd a0.fEdges a1).fFrom), iA ((rd a0.fEdges a1).fTo), iA ((rd a0.fEdges a1).fOutLow), iA ((rd a0.fEdges a1).fOutHigh), iA ((rd a0.fEdges a1).fInLow), iA ((rd a0.fEdges a1).fInHigh)]) R sh97 (qz _) R R (leB R) R) ?_
 rintro _ _ ⟨rfl, rfl⟩
 refine qx <| QN.to (StTo.still [0] 5 R R) <| qw (env' := [(5, _), (2, _), (1, _)]) (.o2 R (.one R (.nil _))) <| qq <| qX <| sr <| fd R R fo97_0 R <| ld R R sh9 ?_
 obtain ⟨t102, ht102, h⟩ := vw h
 refine p1 R 14 R (vQ (f := 152) (A := bA t102) (xs := [.tmp 14]) («as» := [EqA (strV ((rd a0.fEdges a1).fName))]) R ca152 (ref01_IsName.con k ((rd a0.fEdges a1).fName) t102 ht102) R) <| p1 R 15 R (q_not R) <| nt ?_
 refine qZ h R (fun hb103 h => ?_) (fun hb103 h => ?_)
 ·refine sr <| ak R <| qx <| qw (env' := [(4, _)]) (.one R (.nil _)) <| qq <| qN <| qy ?_
  cases h
  exact vW R R (.t R) (.id _)
 ·refine qK <| qq <| qX <| sr <| ak R <| nt <| vj ?_
  refine W.loop1 (Γ := Unit) (fun (_ : Unit) (x6 : Int) => [(1, iA a1), (2, PtrA [SlcA kNodeType a0.fNodes, SlcA kEdgeType a0.fEdges]), (5, PtrA [EqA (strV ((rd a0.fEdges a1).fName)), iA ((rd a0.fEdges a1).fFrom), iA ((rd a0.fEdges a1).fTo), iA ((rd a0.fEdges a1).fOutLow), iA ((rd a0.fEdges a1).fOutHigh), iA ((rd a0.fEdges a1).fInLow), iA ((rd a0.fEdges a1).fInHigh)]), (6, iA x6)]) (fun (_ : Unit) (_ : Int) => []) h () (.o4 R (.nil _)) R (fun rec0 K0 next0 _ x6 h => ?_)
  unfold ref04_edge.b0 at h
  refine qX <| sr <| mv R R <| mv R R <| p2 R 17 R 18 R (qB R R) <| nt ?_
  refine qZ h R (fun hb152 h => ?_) (fun hb152 h => ?_)
  ·refine qK <| qq <| qX <| vj <| qX <| W.drawK [(0, false), (1, false), (2, false), (3, false), (4, false), (5, false), (6, false), (7, false), (8, false)] [] (bm [0, 1, 0, 7, 15, 31, 0, 64, 255]) mx (by kernel_rfl) <| df R R R fo35_1 R <| dl R R R sh33 <| dm R R R ?_
   obtain ⟨c155, h⟩ := qV h
   refine qQ R R (.p R (.s 23 R (.s 24 R .nil)) R (vX R el33 R c155.1 c155.2)) <| df R R R fo97_0 R <| dl R R R sh9 <| df R R R fo97_0 R <| dl R R R sh9 <| qQ R R (.p R (.s 27 R (.s 29 R .nil)) R (q_str (s := (rd a0.fEdges x6).fName) (t := (rd a0.fEdges a1).fName) R)) <| DK.nil <| CSteps.nil <| qw (env' := [(30, _), (6, _), (5, _), (2, _), (1, _)]) (.o4 R (.one R (.nil _))) <| qq ?_
   refine qZ h R (fun hb156 h => ?_) (fun hb156 h => ?_)
   ·refine sr <| ak R <| nt <| qN <| vx <| qy <| qy <| vx <| qy ?_
    cases h
    exact vW R R (.t R) (.id _)
   ·refine qK <| vJ <| qq <| qJ <| mv R R ?_
    obtain ⟨c157, h⟩ := qV h
    refine pk R 20 R (vV R c157) <| av R R <| qx ?_
    exact next0 () (x6 + 1) _ h (.o4 R (.nil _))
  ·refine W.exit <| vq <| vq <| vB <| qq <| sr <| fd R R fo35_0 R <| ld R R sh32 <| p1 R 32 R (vN R elS32) ?_
   obtain ⟨c158, h⟩ := qV h
   refine pk R 33 R (q_subR R c158) <| av R R <| qx <| qw (env' := [(7, _), (5, _)]) (.o2 R (.nil _)) <| qq <| qX <| qX ?_
   refine W.jn1 (Γ := Unit) (fun (_ : Unit) (x62 : Bool) => [(62, bA x62)]) (fun (_ : Unit) (_ : Bool) => []) h (fun _ x62 h => ?_) (fun j167 Kj167 h => ?_)
   ·refine qq ?_
    refine qZ h R (fun hb168 h => ?_) (fun hb168 h => ?_)
    ·refine sr <| ak R <| nt <| qN <| qy ?_
     cases h
     exact vW R R (.t R) (.id _)
    ·refine qK <| qq <| sr <| ak R <| nt <| qN ?_
     cases h
     exact vW R R (.t R) (.id _)
   ·refine qJ <| fd R R fo97_1 R <| ld R R sh3 <| mv R R ?_
    obtain ⟨t169, ht169, h⟩ := vw h
    refine WL.p R R R (.s 36 R (.k (.s 37 R .nil))) (vQ (f := 140) (A := bA t169) (xs := [.tmp 36, .const (.int .i64 0), .tmp 37]) («as» := [iA ((rd a0.fEdges a1).fFrom), iA 0, iA ((a0.fNodes.length : Int) - 1)]) R ca140 (ref04_in.con k ((rd a0.fEdges a1).fFrom) 0 ((a0.fNodes.length : Int) - 1) t169 ht169) R) <| p1 R 38 R (q_not R) <| mv R R ?_
    rcases bif_s h with ⟨hb170, h⟩ | ⟨hb170, h⟩
    ·refine sk R R R hb170 <| sk R R R hb170 <| sk R R R hb170 <| sk R R R hb170 <| sk R R R hb170 <| pk R 40 R (vy R hb170) <| mv R R <| sk R R R R <| sk R R R R <| sk R R R R <| sk R R R R <| sk R R R R <| sk R R R R ?_
     refine pk R 47 R (vy R R) <| mv R R <| sk R R R R <| sk R R R R <| sk R R R R <| sk R R R R <| sk R R R R <| sk R R R R <| pk R 55 R (vy R R) <| qx ?_
     exact qw (.one R (.nil _)) (Kj167 () true h)
    ·refine wf R R R hb170 R R fo97_2 R <| wl R R R hb170 R R sh3 <| wm R R R hb170 R R ?_
     obtain ⟨t171, ht171, h⟩ := vw h
     refine wq R R R hb170 (.s 42 R (.k (.s 43 R .nil))) (vQ (f := 140) (A := bA t171) (xs := [.tmp 42, .const (.int .i64 0), .tmp 43]) («as» := [iA ((rd a0.fEdges a1).fTo), iA 0, iA ((a0.fNodes.length : Int) - 1)]) R ca140 (ref04_in.con k ((rd a0.fEdges a1).fTo) 0 ((a0.fNodes.length : Int) - 1) t171 ht171) R).o <| wq R R R hb170 (.s 44 R .nil) (q_not R).o <| p2 R 40 R 45 R (vz R hb170) <| mv R R ?_
     rcases bif_s h with ⟨hb172, h⟩ | ⟨hb172, h⟩
     ·refine sk R R R hb172 <| sk R R R hb172 <| sk R R R hb172 <| sk R R R hb172 <| sk R R R hb172 <| sk R R R hb172 <| pk R 47 R (vy R hb172) <| mv R R <| sk R R R R <| sk R R R R <| sk R R R R <| sk R R R R <| sk R R R R ?_
      refine sk R R R R <| pk R 55 R (vy R R) <| qx ?_
      exact qw (.one R (.nil _)) (Kj167 () true h)
     ·refine wf R R R hb172 R R fo97_3 R <| wl R R R hb172 R R sh3 <| wf R R R hb172 R R fo97_4 R <| wl R R R hb172 R R sh3 ?_
      obtain ⟨t173, ht173, h⟩ := vw h
      refine wq R R R hb172 (.s 49 R (.s 51 R .nil)) (vQ (f := 154) (A := bA t173) (xs := [.tmp 49, .tmp 51]) («as» := [iA ((rd a0.fEdges a1).fOutLow), iA ((rd a0.fEdges a1).fOutHigh)]) R ca154 (ref04_bound.con k ((rd a0.fEdges a1).fOutLow) ((rd a0.fEdges a1).fOutHigh) t173 ht173) R).o <| wq R R R hb172 (.s 52 R .nil) (q_not R).o <| p2 R 47 R 53 R (vz R hb172) <| mv R R ?_
      rcases bif_s h with ⟨hb174, h⟩ | ⟨hb174, h⟩
      ·refine sk R R R hb174 <| sk R R R hb174 <| sk R R R hb174 <| sk R R R hb174 <| sk R R R hb174 <| sk R R R hb174 <| pk R 55 R (vy R hb174) <| qx ?_
       exact qw (.one R (.nil _)) (Kj167 () true h)
      ·refine wf R R R hb174 R R fo97_5 R <| wl R R R hb174 R R sh3 <| wf R R R hb174 R R fo97_6 R <| wl R R R hb174 R R sh3 ?_
       obtain ⟨t175, ht175, h⟩ := vw h
       refine wq R R R hb174 (.s 57 R (.s 59 R .nil)) (vQ (f := 154) (A := bA t175) (xs := [.tmp 57, .tmp 59]) («as» := [iA ((rd a0.fEdges a1).fInLow), iA ((rd a0.fEdges a1).fInHigh)]) R ca154 (ref04_bound.con k ((rd a0.fEdges a1).fInLow) ((rd a0.fEdges a1).fInHigh) t175 ht175) R).o <| wq R R R hb174 (.s 60 R .nil) (q_not R).o <| p2 R 55 R 61 R (vz R hb174) <| qx ?_
       exact qw (.one R (.nil _)) (Kj167 () (!t175) h)
theorem ref04_Valid.con (k : Nat) (a0 : Types) (r : (Str × Int)) (h : ref04_Valid k a0 = some r) : Con Tryz.prog 58 [] [AggA [SlcA kNodeType a0.fNodes, SlcA kEdgeType a0.fEdges]] (RA (TupA [EqA (strV r.1), iA r.2])) := by
 unfold ref04_Valid at h
 refine vZ (N := 60) Tryz.func58 R R R fun w0_ fg_ => sr <| p1 R 0 R (q_box R (qz _)) <| ak R <| ak R <| nt <| qX <| sr <| fd R R fo35_0 R <| ld R R sh32 ?_
 refine p1 R 9 R (vN R elS32) <| pk R 10 R (qB R R) <| nt ?_
 refine qZ h R (fun hb100 h => ?_) (fun hb100 h => ?_)
 ·refine sr <| ak R <| ak R <| nt <| qN <| qy ?_
  cases h
  exact QR.f2 R R (.t R) (.t R) (.id _)
 ·refine qK <| qw (env' := [(1, _)]) (.one R (.nil _)) <| qq <| qX <| qX ?_
  refine W.jn1 (Γ := Unit) (fun (_ : Unit) (x21 : Bool) => [(1, PtrA [SlcA kNodeType a0.fNodes, SlcA kEdgeType a0.fEdges]), (21, bA x21)]) (fun (_ : Unit) (_ : Bool) => []) h (fun _ x21 h => ?_) (fun j103 Kj103 h => ?_)
  ·refine qq ?_
   refine qZ h R (fun hb104 h => ?_) (fun hb104 h => ?_)
   ·refine sr <| ak R <| ak R <| nt <| qN <| qy ?_
    cases h
    exact QR.f2 R R (.t R) (.t R) (.id _)
   ·refine qK <| qq <| qX <| sr <| ak R <| nt <| vj ?_
    refine W.loop1 (Γ := Unit) (fun (_ : Unit) (x4 : Int) => [(1, PtrA [SlcA kNodeType a0.fNodes, SlcA kEdgeType a0.fEdges]), (4, iA x4)]) (fun (_ : Unit) (_ : Int) => []) h () (.o2 R (.nil _)) R (fun rec0 K0 next0 _ x4 h => ?_)
    unfold ref04_Valid.b0 at h
    refine qX <| sr <| mv R R <| fd R R fo35_0 R <| ld R R sh32 <| p1 R 24 R (vN R elS32) <| p2 R 22 R 25 R (qB R R) <| nt ?_
    refine qZ h R (fun hb145 h => ?_) (fun hb145 h => ?_)
    ·refine qK <| qq <| qX <| vj <| sr <| lS R R sh35 R R <| mv R R ?_
     obtain ⟨t146, ht146, h⟩ := vw h
     refine p2 R 29 R 30 R (vQ (f := 111) (A := iA t146) (xs := [.tmp 29, .tmp 30]) («as» := [AggA [SlcA kNodeType a0.fNodes, SlcA kEdgeType a0.fEdges], iA x4]) R ca111 (ref04_node.con k a0 x4 t146 ht146) R) <| av R R <| qx <| qw (env' := [(5, _), (4, _), (1, _)]) (.o2 R (.one R (.nil _))) <| qq <| sr <| mv R R <| pk R 32 R (qB R R) <| nt ?_
     refine qZ h R (fun hb147 h => ?_) (fun hb147 h => ?_)
     ·refine sr <| fd R R fo35_0 R <| ld R R sh32 <| mv R R ?_
      obtain ⟨c148, h⟩ := qV h
      refine p2 R 35 R 36 R (vX R el32 R c148.1 c148.2) <| fd R R fo92_0 R <| ld R R sh9 <| mv R R <| av R R <| av R R <| qx <| qw (env' := [(3, _), (2, _)]) (.o2 R (.nil _)) <| qq <| qN <| vx <| qy <| qy ?_
      refine vx <| qy ?_
      cases h
      exact QR.f2 R R (.t R) (.t R) (.id _)
     ·refine qK <| vJ <| qq <| qJ <| mv R R ?_
      obtain ⟨c149, h⟩ := qV h
      refine pk R 27 R (vV R c149) <| av R R <| qx ?_
      exact next0 () (x4 + 1) _ h (.o2 R (.nil _))
    ·refine W.exit <| vq <| vq <| vB <| qq <| qX <| sr <| ak R <| nt <| vj ?_
     refine W.loop1 (Γ := Unit) (fun (_ : Unit) (x6 : Int) => [(1, PtrA [SlcA kNodeType a0.fNodes, SlcA kEdgeType a0.fEdges]), (6, iA x6)]) (fun (_ : Unit) (_ : Int) => []) h () (.o2 R (.nil _)) R (fun rec1 K1 next1 _ x6 h => ?_)
     unfold ref04_Valid.b1 at h
     refine qX <| sr <| mv R R <| fd R R fo35_1 R <| ld R R sh33 <| p1 R 43 R (vN R elS33) <| p2 R 41 R 44 R (qB R R) <| nt ?_
     refine qZ h R (fun hb160 h => ?_) (fun hb160 h => ?_)
     ·refine qK <| qq <| qX <| vj <| sr <| lS R R sh35 R R <| mv R R ?_
      obtain ⟨t161, ht161, h⟩ := vw h
      refine p2 R 48 R 49 R (vQ (f := 112) (A := iA t161) (xs := [.tmp 48, .tmp 49]) («as» := [AggA [SlcA kNodeType a0.fNodes, SlcA kEdgeType a0.fEdges], iA x6]) R ca112 (ref04_edge.con k a0 x6 t161 ht161) R) <| av R R <| qx <| qw (env' := [(7, _), (6, _), (1, _)]) (.o2 R (.one R (.nil _))) <| qq <| sr <| mv R R <| pk R 51 R (qB R R) <| nt ?_
      refine qZ h R (fun hb162 h => ?_) (fun hb162 h => ?_)
      ·refine sr <| fd R R fo35_1 R <| ld R R sh33 <| mv R R ?_
       obtain ⟨c163, h⟩ := qV h
       refine p2 R 54 R 55 R (vX R el33 R c163.1 c163.2) <| fd R R fo97_0 R <| ld R R sh9 <| mv R R <| av R R <| av R R <| qx <| qw (env' := [(3, _), (2, _)]) (.o2 R (.nil _)) <| qq <| qN <| vx <| qy <| qy ?_
       refine vx <| qy ?_
       cases h
       exact QR.f2 R R (.t R) (.t R) (.id _)
      ·refine qK <| vJ <| qq <| qJ <| mv R R ?_
       obtain ⟨c164, h⟩ := qV h
       refine pk R 46 R (vV R c164) <| av R R <| qx ?_
       exact next1 () (x6 + 1) _ h (.o2 R (.nil _))
     ·refine W.exit <| vq <| vq <| vB <| qw (env' := []) (.nil _) <| qq <| sr <| ak R <| ak R <| nt <| qN ?_
      cases h
      exact QR.f2 R R (.t R) (.t R) (.id _)
  ·refine qJ <| fd R R fo35_0 R <| ld R R sh32 <| p1 R 13 R (vN R elS32) <| pk R 14 R (qB R R) <| mv R R ?_
   rcases bif_s h with ⟨hb165, h⟩ | ⟨hb165, h⟩
   ·refine sk R R R hb165 <| sk R R R hb165 <| sk R R R hb165 <| sk R R R hb165 <| pk R 16 R (vy R hb165) <| qx ?_
    exact qw (.o2 R (.nil _)) (Kj103 () true h)
   ·refine wf R R R hb165 R R fo35_1 R <| wl R R R hb165 R R sh33 <| wq R R R hb165 (.s 18 R .nil) (vN R elS33).o <| wq R R R hb165 (.s 19 R (.k .nil)) (qB R R).o <| p2 R 16 R 20 R (vz R hb165) <| qx ?_
    exact qw (.o2 R (.nil _)) (Kj103 () (decide ((a0.fEdges.length : Int) > 20)) h)
theorem ref05_kind.con (k : Nat) (a0 : Int) (r : Bool) (h : ref05_kind k a0 = some r) : Con Tryz.prog 113 [] [iA a0] (RA (bA r)) := by
 unfold ref05_kind at h
 refine vZ (N := 9) Tryz.func113 R R R fun w0_ fg_ => sr <| ak R <| nt <| qX ?_
 refine W.jn1 (Γ := Unit) (fun (_ : Unit) (x2 : Bool) => [(2, bA x2)]) (fun (_ : Unit) (_ : Bool) => []) h (fun _ x2 h => ?_) (fun j102 Kj102 h => ?_)
 ·refine qq <| qN ?_
  cases h
  exact vW R R (.t R) (.id _)
 ·refine qJ <| mv R R <| pk R 3 R (qB R R) <| mv R R ?_
  rcases bif_s h with ⟨hb103, h⟩ | ⟨hb103, h⟩
  ·refine wm R R R hb103 R R <| wq R R R hb103 (.s 6 R (.k .nil)) (qB R R).o <| p2 R 5 R 7 R (vy R hb103) <| av R R <| qx ?_
   exact qw (.one R (.nil _)) (Kj102 () (decide (a0 ≤ 99)) h)
  ·refine sk R R R hb103 <| sk R R R hb103 <| pk R 5 R (vz R hb103) <| av R R <| qx ?_
   exact qw (.one R (.nil _)) (Kj102 () false h)
theorem ref05_right.con (k : Nat) (a0 : Edge) (a1 : Int) (r : Bool) (h : ref05_right k a0 a1 = some r) : Con Tryz.prog 114 [] [AggA [iA a0.fType, iA a0.fFrom, iA a0.fTo], iA a1] (RA (bA r)) := by
 unfold ref05_right at h
 refine vZ (N := 30) Tryz.func114 R R R fun w0_ fg_ => sr <| p1 R 0 R (q_box R (qz _)) <| ak R <| nt <| qX ?_
 refine W.jn1 (Γ := Unit) (fun (_ : Unit) (x4 : Bool) => [(4, bA x4)]) (fun (_ : Unit) (_ : Bool) => []) h (fun _ x4 h => ?_) (fun j106 Kj106 h => ?_)
 ·refine qq <| qN ?_
  cases h
  exact vW R R (.t R) (.id _)
 ·refine qJ <| fd R R fo109_0 R <| ld R R sh3 ?_
  obtain ⟨t107, ht107, h⟩ := vw h
  refine p1 R 6 R (vQ (f := 113) (A := bA t107) (xs := [.tmp 6]) («as» := [iA a0.fType]) R ca113 (ref05_kind.con k a0.fType t107 ht107) R) <| mv R R ?_
  rcases bif_s h with ⟨hb108, h⟩ | ⟨hb108, h⟩
  ·refine wf R R R hb108 R R fo109_1 R <| wl R R R hb108 R R sh3 <| wq R R R hb108 (.s 10 R (.k .nil)) (qB R R).o <| p2 R 8 R 11 R (vy R hb108) <| mv R R ?_
   rcases bif_s h with ⟨hb109, h⟩ | ⟨hb109, h⟩
   ·refine wf R R R hb109 R R fo109_1 R <| wl R R R hb109 R R sh3 <| wm R R R hb109 R R <| wq R R R hb109 (.s 15 R (.s 16 R .nil)) (qB R R).o <| p2 R 13 R 17 R (vy R hb109) <| mv R R ?_
    rcases bif_s h with ⟨hb110, h⟩ | ⟨hb110, h⟩
    ·refine wf R R R hb110 R R fo109_2 R <| wl R R R hb110 R R sh3 <| wq R R R hb110 (.s 21 R (.k .nil)) (qB R R).o <| p2 R 19 R 22 R (vy R hb110) <| mv R R ?_
     rcases bif_s h with ⟨hb111, h⟩ | ⟨hb111, h⟩
     ·refine wf R R R hb111 R R fo109_2 R <| wl R R R hb111 R R sh3 <| wm R R R hb111 R R <| wq R R R hb111 (.s 26 R (.s 27 R .nil)) (qB R R).o <| p2 R 24 R 28 R (vy R hb111) <| av R R <| qx ?_
      exact qw (.one R (.nil _)) (Kj106 () (decide (a0.fTo < a1)) h)
     ·refine sk R R R hb111 <| sk R R R hb111 <| sk R R R hb111 <| sk R R R hb111 <| pk R 24 R (vz R hb111) <| av R R <| qx ?_
      exact qw (.one R (.nil _)) (Kj106 () false h)
    ·refine sk R R R hb110 <| sk R R R hb110 <| sk R R R hb110 <| pk R 19 R (vz R hb110) <| mv R R <| sk R R R R <| sk R R R R <| sk R R R R <| sk R R R R <| pk R 24 R (vz R R) <| av R R <| qx ?_
     exact qw (.one R (.nil _)) (Kj106 () false h)
   ·refine sk R R R hb109 <| sk R R R hb109 <| sk R R R hb109 <| sk R R R hb109 <| pk R 13 R (vz R hb109) <| mv R R <| sk R R R R <| sk R R R R <| sk R R R R <| pk R 19 R (vz R R) <| mv R R <| sk R R R R <| sk R R R R ?_
    refine sk R R R R <| sk R R R R <| pk R 24 R (vz R R) <| av R R <| qx ?_
    exact qw (.one R (.nil _)) (Kj106 () false h)
  ·refine sk R R R hb108 <| sk R R R hb108 <| sk R R R hb108 <| pk R 8 R (vz R hb108) <| mv R R <| sk R R R R <| sk R R R R <| sk R R R R <| sk R R R R <| pk R 13 R (vz R R) <| mv R R <| sk R R R R <| sk R R R R ?_
   refine sk R R R R <| pk R 19 R (vz R R) <| mv R R <| sk R R R R <| sk R R R R <| sk R R R R <| sk R R R R <| pk R 24 R (vz R R) <| av R R <| qx ?_
   exact qw (.one R (.nil _)) (Kj106 () false h)
theorem ref05_Valid.con (k : Nat) (a0 : Graph) (r : Int) (h : ref05_Valid k a0 = some r) : Con Tryz.prog 59 [] [AggA [SlcA kInt a0.fNodes, SlcA kEdge a0.fEdges]] (RA (iA r)) := by
 unfold ref05_Valid at h
 refine vZ (N := 46) Tryz.func59 R R R fun w0_ fg_ => sr <| p1 R 0 R (q_box R (qz _)) <| ak R <| nt <| qX <| qX ?_
 refine W.jn1 (Γ := Unit) (fun (_ : Unit) (x14 : Bool) => [(1, PtrA [SlcA kInt a0.fNodes, SlcA kEdge a0.fEdges]), (14, bA x14)]) (fun (_ : Unit) (_ : Bool) => []) h (fun _ x14 h => ?_) (fun j102 Kj102 h => ?_)
 ·refine qq ?_
  refine qZ h R (fun hb103 h => ?_) (fun hb103 h => ?_)
  ·refine sr <| ak R <| nt <| qN <| qy ?_
   cases h
   exact vW R R (.t R) (.id _)
  ·refine qK <| qq <| qX <| sr <| ak R <| nt <| vj ?_
   refine W.loop1 (Γ := Unit) (fun (_ : Unit) (x3 : Int) => [(1, PtrA [SlcA kInt a0.fNodes, SlcA kEdge a0.fEdges]), (3, iA x3)]) (fun (_ : Unit) (_ : Int) => []) h () (.o2 R (.nil _)) R (fun rec0 K0 next0 _ x3 h => ?_)
   unfold ref05_Valid.b0 at h
   refine qX <| sr <| mv R R <| fd R R fo38_0 R <| ld R R sh26 <| p1 R 17 R (vN R elS26) <| p2 R 15 R 18 R (qB R R) <| nt ?_
   refine qZ h R (fun hb168 h => ?_) (fun hb168 h => ?_)
   ·refine qK <| qq <| qX <| vj <| sr <| fd R R fo38_0 R <| ld R R sh26 <| mv R R ?_
    obtain ⟨c169, h⟩ := qV h
    refine p2 R 23 R 24 R (vX R el26 R c169.1 c169.2) <| ld R R sh3 ?_
    obtain ⟨t170, ht170, h⟩ := vw h
    refine p1 R 26 R (vQ (f := 113) (A := bA t170) (xs := [.tmp 26]) («as» := [iA (rd a0.fNodes x3)]) R ca113 (ref05_kind.con k (rd a0.fNodes x3) t170 ht170) R) <| p1 R 27 R (q_not R) <| qx <| qw (env' := [(28, _), (3, _), (1, _)]) (.o2 R (.one R (.nil _))) <| qq ?_
    refine qZ h R (fun hb171 h => ?_) (fun hb171 h => ?_)
    ·refine sr <| ak R <| nt <| qN <| vx <| qy <| qy <| vx <| qy ?_
     cases h
     exact vW R R (.t R) (.id _)
    ·refine qK <| vJ <| qq <| qJ <| mv R R ?_
     obtain ⟨c172, h⟩ := qV h
     refine pk R 20 R (vV R c172) <| av R R <| qx ?_
     exact next0 () (x3 + 1) _ h (.o2 R (.nil _))
   ·refine W.exit <| vq <| vq <| vB <| qq <| qX <| sr <| ak R <| nt <| vj ?_
    refine W.loop1 (Γ := Unit) (fun (_ : Unit) (x4 : Int) => [(1, PtrA [SlcA kInt a0.fNodes, SlcA kEdge a0.fEdges]), (4, iA x4)]) (fun (_ : Unit) (_ : Int) => []) h () (.o2 R (.nil _)) R (fun rec1 K1 next1 _ x4 h => ?_)
    unfold ref05_Valid.b1 at h
    refine qX <| sr <| mv R R <| fd R R fo38_1 R <| ld R R sh36 <| p1 R 31 R (vN R elS36) <| p2 R 29 R 32 R (qB R R) <| nt ?_
    refine qZ h R (fun hb191 h => ?_) (fun hb191 h => ?_)
    ·refine qK <| qq <| qX <| vj <| qX <| W.drawK [(0, false), (1, false), (2, false), (3, false), (4, false), (5, false), (6, false), (7, false), (8, false), (9, false)] [] (bm [0, 1, 0, 7, 15, 0, 32, 96, 255, 511]) mx (by kernel_rfl) <| df R R R fo38_1 R <| dl R R R sh36 <| dm R R R ?_
     obtain ⟨c196, h⟩ := qV h
     refine qQ R R (.p R (.s 37 R (.s 38 R .nil)) R (vX R el36 R c196.1 c196.2)) <| qQ R R (.p R (.s 39 R .nil) R (q_loadS R sh109 (leB R) R)) <| df R R R fo38_0 R <| dl R R R sh26 <| qQ R R (.p R (.s 42 R .nil) R (vN R elS26)) ?_
     obtain ⟨t197, ht197, h⟩ := vw h
     refine qQ R R (.p R (.s 40 R (.s 43 R .nil)) R (vQ (f := 114) (A := bA t197) (xs := [.tmp 40, .tmp 43]) («as» := [AggA [iA ((rd a0.fEdges x4).fType), iA ((rd a0.fEdges x4).fFrom), iA ((rd a0.fEdges x4).fTo)], iA (a0.fNodes.length : Int)]) R ca114 (ref05_right.con k (rd a0.fEdges x4) (a0.fNodes.length : Int) t197 ht197) R)) <| qQ R R (.p R (.s 44 R .nil) R (q_not R)) <| DK.nil <| CSteps.nil <| qw (env' := [(45, _), (4, _), (1, _)]) (.o2 R (.one R (.nil _))) <| qq ?_
     refine qZ h R (fun hb198 h => ?_) (fun hb198 h => ?_)
     ·refine sr <| ak R <| nt <| qN <| vx <| qy <| qy <| vx <| qy ?_
      cases h
      exact vW R R (.t R) (.id _)
     ·refine qK <| vJ <| qq <| qJ <| mv R R ?_
      obtain ⟨c199, h⟩ := qV h
      refine pk R 34 R (vV R c199) <| av R R <| qx ?_
      exact next1 () (x4 + 1) _ h (.o2 R (.nil _))
    ·refine W.exit <| vq <| vq <| vB <| qw (env' := []) (.nil _) <| qq <| sr <| ak R <| nt <| qN ?_
     cases h
     exact vW R R (.t R) (.id _)
 ·refine qJ <| fd R R fo38_0 R <| ld R R sh26 <| p1 R 6 R (vN R elS26) <| pk R 7 R (qB R R) <| mv R R ?_
  rcases bif_s h with ⟨hb200, h⟩ | ⟨hb200, h⟩
  ·refine sk R R R hb200 <| sk R R R hb200 <| sk R R R hb200 <| sk R R R hb200 <| pk R 9 R (vy R hb200) <| qx ?_
   exact qw (.o2 R (.nil _)) (Kj102 () true h)
  ·refine wf R R R hb200 R R fo38_1 R <| wl R R R hb200 R R sh36 <| wq R R R hb200 (.s 11 R .nil) (vN R elS36).o <| wq R R R hb200 (.s 12 R (.k .nil)) (qB R R).o <| p2 R 9 R 13 R (vz R hb200) <| qx ?_
   exact qw (.o2 R (.nil _)) (Kj102 () (decide ((a0.fEdges.length : Int) > 80)) h)
theorem ref17_Typed.con (k : Nat) (a0 : Types) (a1 : Graph) (r : Bool) (h : ref17_Typed k a0 a1 = some r) : Con Tryz.prog 60 [] [AggA [SlcA kNodeType a0.fNodes, SlcA kEdgeType a0.fEdges], AggA [SlcA kInt a1.fNodes, SlcA kEdge a1.fEdges]] (RA (bA r)) := by
 unfold ref17_Typed at h
 refine vZ (N := 57) Tryz.func60 R R R fun w0_ fg_ => sr <| p1 R 0 R (q_box R (qz _)) <| p1 R 1 R (q_box R (qz _)) <| ak R <| nt <| qX <| sr <| ak R <| qx ?_
 refine qq <| vj ?_
 refine W.loop1 (Γ := Unit) (fun (_ : Unit) (x5 : Int) => [(2, PtrA [SlcA kNodeType a0.fNodes, SlcA kEdgeType a0.fEdges]), (3, PtrA [SlcA kInt a1.fNodes, SlcA kEdge a1.fEdges]), (5, iA x5)]) (fun (_ : Unit) (_ : Int) => []) h () (.o2 R (.one R (.nil _))) R (fun rec0 K0 next0 _ x5 h => ?_)
 unfold ref17_Typed.b0 at h
 refine qX <| sr <| mv R R <| fd R R fo38_0 R <| ld R R sh26 <| p1 R 9 R (vN R elS26) <| p2 R 7 R 10 R (qB R R) <| nt ?_
 refine qZ h R (fun hb212 h => ?_) (fun hb212 h => ?_)
 ·refine qK <| qq <| qX <| vj <| qX ?_
  refine W.jn1 (Γ := Unit) (fun (_ : Unit) (x30 : Bool) => [(2, PtrA [SlcA kNodeType a0.fNodes, SlcA kEdgeType a0.fEdges]), (3, PtrA [SlcA kInt a1.fNodes, SlcA kEdge a1.fEdges]), (5, iA x5), (30, bA x30)]) (fun (_ : Unit) (_ : Bool) => []) h (fun _ x30 h => ?_) (fun j220 Kj220 h => ?_)
  ·refine qq ?_
   refine qZ h R (fun hb221 h => ?_) (fun hb221 h => ?_)
   ·refine sr <| ak R <| nt <| qN <| vx <| qy <| qy <| vx <| qy ?_
    cases h
    exact vW R R (.t R) (.id _)
   ·refine qK <| vJ <| qq <| qJ <| mv R R ?_
    obtain ⟨c222, h⟩ := qV h
    refine pk R 12 R (vV R c222) <| av R R <| qx ?_
    exact next0 () (x5 + 1) _ h (.o2 R (.one R (.nil _)))
  ·refine W.drawK [(0, false), (1, false), (2, false), (3, false), (4, false), (5, false), (6, false), (7, false), (8, false), (9, false), (10, false), (11, false), (12, false), (13, false), (14, false), (15, false), (16, false)] [] (bm [0, 1, 0, 7, 15, 31, 63, 127, 255, 127, 1023, 2047, 127, 4223, 12415, 32767, 65535]) mx (by kernel_rfl) <| df R R R fo38_0 R <| dl R R R sh26 <| dm R R R ?_
   obtain ⟨c223, h⟩ := qV h
   refine qQ R R (.p R (.s 15 R (.s 16 R .nil)) R (vX R el26 R c223.1 c223.2)) <| dl R R R sh3 <| qQ R R (.p R (.s 18 R (.k .nil)) R (qB R R)) <| dm R R R ?_
   rcases bif_s h with ⟨hb224, h⟩ | ⟨hb224, h⟩
   ·refine dx R R R hb224 <| dx R R R hb224 <| dx R R R hb224 <| dx R R R hb224 <| dx R R R hb224 <| dx R R R hb224 <| dx R R R hb224 <| dx R R R hb224 <| dx R R R hb224 <| qQ R R (.p R (.s 20 R (.k .nil)) R (vy R hb224)) <| DK.nil <| CSteps.nil ?_
    exact qw (.o4 R (.nil _)) (Kj220 () true h)
   ·refine qQ R R (.gp R R R hb224 (.s 3 R .nil) R (q_field R fo38_0 R)) <| qQ R R (.gp R R R hb224 (.s 21 R .nil) R (q_load R sh26)) <| qQ R R (.gp R R R hb224 (.s 5 R .nil) R (q_move R)) ?_
    obtain ⟨c225, h⟩ := qV h
    refine qQ R R (.gp R R R hb224 (.s 22 R (.s 23 R .nil)) R (vX R el26 R c225.1 c225.2)) <| qQ R R (.gp R R R hb224 (.s 24 R .nil) R (q_load R sh3)) <| qQ R R (.gp R R R hb224 (.s 2 R .nil) R (q_field R fo35_0 R)) <| qQ R R (.gp R R R hb224 (.s 26 R .nil) R (q_load R sh32)) <| qQ R R (.gp R R R hb224 (.s 27 R .nil) R (vN R elS32)) <| qQ R R (.gp R R R hb224 (.s 25 R (.s 28 R .nil)) R (qB R R)) <| qQ R R (.p R (.s 20 R (.s 29 R .nil)) R (vz R hb224)) <| DK.nil <| CSteps.nil ?_
    exact qw (.o4 R (.nil _)) (Kj220 () (decide ((rd a1.fNodes x5) ≥ (a0.fNodes.length : Int))) h)
 ·refine W.exit <| vq <| vq <| vB <| qq <| qX <| sr <| ak R <| nt <| vj ?_
  refine W.loop1 (Γ := Unit) (fun (_ : Unit) (x6 : Int) => [(2, PtrA [SlcA kNodeType a0.fNodes, SlcA kEdgeType a0.fEdges]), (3, PtrA [SlcA kInt a1.fNodes, SlcA kEdge a1.fEdges]), (6, iA x6)]) (fun (_ : Unit) (_ : Int) => []) h () (.o2 R (.one R (.nil _))) R (fun rec1 K1 next1 _ x6 h => ?_)
  unfold ref17_Typed.b1 at h
  refine qX <| sr <| mv R R <| fd R R fo38_1 R <| ld R R sh36 <| p1 R 33 R (vN R elS36) <| p2 R 31 R 34 R (qB R R) <| nt ?_
  refine qZ h R (fun hb254 h => ?_) (fun hb254 h => ?_)
  ·refine qK <| qq <| qX <| vj <| qX ?_
   refine W.jn1 (Γ := Unit) (fun (_ : Unit) (x56 : Bool) => [(2, PtrA [SlcA kNodeType a0.fNodes, SlcA kEdgeType a0.fEdges]), (3, PtrA [SlcA kInt a1.fNodes, SlcA kEdge a1.fEdges]), (6, iA x6), (56, bA x56)]) (fun (_ : Unit) (_ : Bool) => []) h (fun _ x56 h => ?_) (fun j262 Kj262 h => ?_)
   ·refine qq ?_
    refine qZ h R (fun hb263 h => ?_) (fun hb263 h => ?_)
    ·refine sr <| ak R <| nt <| qN <| vx <| qy <| qy <| vx <| qy ?_
     cases h
     exact vW R R (.t R) (.id _)
    ·refine qK <| vJ <| qq <| qJ <| mv R R ?_
     obtain ⟨c264, h⟩ := qV h
     refine pk R 36 R (vV R c264) <| av R R <| qx ?_
     exact next1 () (x6 + 1) _ h (.o2 R (.one R (.nil _)))
   ·refine W.drawK [(0, false), (1, false), (2, false), (3, false), (4, false), (5, false), (6, false), (7, false), (8, false), (9, false), (10, false), (11, false), (12, false), (13, false), (14, false), (15, false), (16, false), (17, false), (18, false)] [] (bm [0, 1, 0, 7, 15, 31, 63, 127, 255, 511, 255, 2047, 4095, 8191, 255, 16639, 49407, 131071, 262143]) mx (by kernel_rfl) <| df R R R fo38_1 R <| dl R R R sh36 <| dm R R R ?_
    obtain ⟨c265, h⟩ := qV h
    refine qQ R R (.p R (.s 39 R (.s 40 R .nil)) R (vX R el36 R c265.1 c265.2)) <| df R R R fo109_0 R <| dl R R R sh3 <| qQ R R (.p R (.s 43 R (.k .nil)) R (qB R R)) <| dm R R R ?_
    rcases bif_s h with ⟨hb266, h⟩ | ⟨hb266, h⟩
    ·refine dx R R R hb266 <| dx R R R hb266 <| dx R R R hb266 <| dx R R R hb266 <| dx R R R hb266 <| dx R R R hb266 <| dx R R R hb266 <| dx R R R hb266 <| dx R R R hb266 <| dx R R R hb266 <| qQ R R (.p R (.s 45 R (.k .nil)) R (vy R hb266)) <| DK.nil <| CSteps.nil ?_
     exact qw (.o4 R (.nil _)) (Kj262 () true h)
    ·refine qQ R R (.gp R R R hb266 (.s 3 R .nil) R (q_field R fo38_1 R)) <| qQ R R (.gp R R R hb266 (.s 46 R .nil) R (q_load R sh36)) <| qQ R R (.gp R R R hb266 (.s 6 R .nil) R (q_move R)) ?_
     obtain ⟨c267, h⟩ := qV h
     refine qQ R R (.gp R R R hb266 (.s 47 R (.s 48 R .nil)) R (vX R el36 R c267.1 c267.2)) <| qQ R R (.gp R R R hb266 (.s 49 R .nil) R (q_field R fo109_0 R)) <| qQ R R (.gp R R R hb266 (.s 50 R .nil) R (q_load R sh3)) <| qQ R R (.gp R R R hb266 (.s 2 R .nil) R (q_field R fo35_1 R)) <| qQ R R (.gp R R R hb266 (.s 52 R .nil) R (q_load R sh33)) <| qQ R R (.gp R R R hb266 (.s 53 R .nil) R (vN R elS33)) <| qQ R R (.gp R R R hb266 (.s 51 R (.s 54 R .nil)) R (qB R R)) <| qQ R R (.p R (.s 45 R (.s 55 R .nil)) R (vz R hb266)) <| DK.nil <| CSteps.nil ?_
     exact qw (.o4 R (.nil _)) (Kj262 () (decide ((rd a1.fEdges x6).fType ≥ (a0.fEdges.length : Int))) h)
  ·refine W.exit <| vq <| vq <| vB <| qw (env' := []) (.nil _) <| qq <| sr <| ak R <| nt <| qN ?_
   cases h
   exact vW R R (.t R) (.id _)
theorem ref04_given.con (k : Nat) (a0 : Types) (a1 : Int) (a2 : Int) (r : Int) (h : ref04_given k a0 a1 a2 = some r) : Con Tryz.prog 138 [] [AggA [SlcA kNodeType a0.fNodes, SlcA kEdgeType a0.fEdges], iA a1, iA a2] (RA (iA r)) := by
 unfold ref04_given at h
 refine vZ (N := 33) Tryz.func138 R R R fun w0_ fg_ => sr <| p1 R 0 R (q_box R (qz _)) <| ak R <| nt <| qX <| sr <| lS R R sh35 R R ?_
 obtain ⟨t100, ht100, h⟩ := vw h
 refine p1 R 10 R (vQ (f := 58) (A := TupA [EqA (strV t100.1), iA t100.2]) (xs := [.tmp 10]) («as» := [AggA [SlcA kNodeType a0.fNodes, SlcA kEdgeType a0.fEdges]]) R ca58 (ref04_Valid.con k a0 t100 ht100) R) <| mv R R <| p1 R 9 R (vK R R) <| p1 R 9 R (vK R R) <| av R R <| av R R <| qx <| qw (env' := [(8, _), (3, _), (2, _), (1, _)]) (.o4 R (.nil _)) <| qq <| sr <| mv R R <| pk R 14 R (qB R R) ?_
 refine nt ?_
 refine qZ h R (fun hb101 h => ?_) (fun hb101 h => ?_)
 ·refine sr <| mv R R <| av R R <| qx <| qw (env' := [(6, _)]) (.one R (.nil _)) <| qq <| qN <| qy ?_
  cases h
  exact vW R R (.t R) (.id _)
 ·refine qK <| qq <| qX <| qX ?_
  refine W.jn1 (Γ := Unit) (fun (_ : Unit) (x32 : Bool) => [(32, bA x32)]) (fun (_ : Unit) (_ : Bool) => []) h (fun _ x32 h => ?_) (fun j108 Kj108 h => ?_)
  ·refine qq ?_
   refine qZ h R (fun hb109 h => ?_) (fun hb109 h => ?_)
   ·refine sr <| ak R <| nt <| qN <| qy ?_
    cases h
    exact vW R R (.t R) (.id _)
   ·refine qK <| qq <| sr <| ak R <| nt <| qN ?_
    cases h
    exact vW R R (.t R) (.id _)
  ·refine qJ <| mv R R <| fd R R fo35_0 R <| ld R R sh32 <| p1 R 19 R (vN R elS32) ?_
   obtain ⟨c110, h⟩ := qV h
   refine pk R 20 R (q_subR R c110) ?_
   obtain ⟨t111, ht111, h⟩ := vw h
   refine WL.p R R R (.s 17 R (.k (.s 21 R .nil))) (vQ (f := 140) (A := bA t111) (xs := [.tmp 17, .const (.int .i64 0), .tmp 21]) («as» := [iA a1, iA 0, iA ((a0.fNodes.length : Int) - 1)]) R ca140 (ref04_in.con k a1 0 ((a0.fNodes.length : Int) - 1) t111 ht111) R) <| p1 R 22 R (q_not R) <| mv R R ?_
   rcases bif_s h with ⟨hb112, h⟩ | ⟨hb112, h⟩
   ·refine sk R R R hb112 <| sk R R R hb112 <| sk R R R hb112 <| sk R R R hb112 <| sk R R R hb112 <| sk R R R hb112 <| sk R R R hb112 <| pk R 24 R (vy R hb112) <| qx ?_
    exact qw (.one R (.nil _)) (Kj108 () true h)
   ·refine wm R R R hb112 R R <| wf R R R hb112 R R fo35_0 R <| wl R R R hb112 R R sh32 <| wq R R R hb112 (.s 27 R .nil) (vN R elS32).o ?_
    obtain ⟨c113, h⟩ := qV h
    refine wq R R R hb112 (.s 28 R (.k .nil)) (q_subR R c113).o ?_
    obtain ⟨t114, ht114, h⟩ := vw h
    refine wq R R R hb112 (.s 25 R (.k (.s 29 R .nil))) (vQ (f := 140) (A := bA t114) (xs := [.tmp 25, .const (.int .i64 0), .tmp 29]) («as» := [iA a2, iA 0, iA ((a0.fNodes.length : Int) - 1)]) R ca140 (ref04_in.con k a2 0 ((a0.fNodes.length : Int) - 1) t114 ht114) R).o <| wq R R R hb112 (.s 30 R .nil) (q_not R).o <| p2 R 24 R 31 R (vz R hb112) <| qx ?_
    exact qw (.one R (.nil _)) (Kj108 () (!t114) h)
theorem ref04_Attrs.con (k : Nat) (a0 : Types) (a1 : Int) (r : ((List Attr) × Int)) (h : ref04_Attrs k a0 a1 = some r) : Con Tryz.prog 86 [] [AggA [SlcA kNodeType a0.fNodes, SlcA kEdgeType a0.fEdges], iA a1] (RA (TupA [SlcA kAttr r.1, iA r.2])) := by
 unfold ref04_Attrs at h
 refine vZ (N := 41) Tryz.func86 R R R fun w0_ fg_ => sr <| p1 R 0 R (q_box R (qz _)) <| ak R <| ak R <| nt <| qX <| sr <| lS R R sh35 R R <| mv R R ?_
 refine mv R R ?_
 obtain ⟨t100, ht100, h⟩ := vw h
 refine WL.p R R R (.s 11 R (.s 12 R (.s 13 R .nil))) (vQ (f := 138) (A := iA t100) (xs := [.tmp 11, .tmp 12, .tmp 13]) («as» := [AggA [SlcA kNodeType a0.fNodes, SlcA kEdgeType a0.fEdges], iA a1, iA a1]) R ca138 (ref04_given.con k a0 a1 a1 t100 ht100) R) <| av R R <| qx <| qw (env' := [(6, _), (2, _), (1, _)]) (.o2 R (.one R (.nil _))) <| qq <| sr <| mv R R <| pk R 15 R (qB R R) <| nt ?_
 refine qZ h R (fun hb101 h => ?_) (fun hb101 h => ?_)
 ·refine sr <| mv R R <| ak R <| av R R <| nt <| qN <| qy ?_
  cases h
  exact QR.f2 R R (.t R) (.t R) (.imp (Imp.tup (.cons (Imp.nil kAttr) (.cons (Imp.id _) .nil))))
 ·refine qK <| qq <| sr <| ak R <| nx <| lS R R sh35 R R <| mv R R ?_
  obtain ⟨t102, ht102, h⟩ := vw h
  refine p2 R 18 R 19 R (vQ (f := 139) (A := SlcA kAttr t102) (xs := [.tmp 18, .tmp 19]) («as» := [AggA [SlcA kNodeType a0.fNodes, SlcA kEdgeType a0.fEdges], iA a1]) R ca139 (ref04_attrs.con k a0 a1 t102 ht102) R) <| av R R <| qx <| qw (env' := [(8, _), (7, _)]) (.o2 R (.nil _)) <| qq <| qX <| sr <| ak R <| nt <| vj <| W.to (StTo.newNil 95 kAttr) ?_
  refine W.to (StTo.as 7 R Imp.nilHd) ?_
  refine W.loop2 (Γ := Value) (fun (g0 : Value) (_ : (List Attr)) (x9 : Int) => [(7, HdA g0), (8, SlcA kAttr t102), (9, iA x9)]) (fun (g0 : Value) (x7 : (List Attr)) (_ : Int) => [SlE 95 g0 kAttr x7]) h (.slice none 0 0) (.o2 R (.one R (.nil _))) R (fun rec0 K0 next0 g0 x7 x9 h => ?_)
  unfold ref04_Attrs.b0 at h
  refine qX <| sr <| mv R R <| mv R R <| p1 R 22 R (vN R elS90) <| p2 R 21 R 23 R (qB R R) <| nt ?_
  refine qZ h R (fun hb124 h => ?_) (fun hb124 h => ?_)
  ·refine qK <| qq <| qX <| vj <| sr <| mv R R <| mv R R ?_
   obtain ⟨c125, h⟩ := qV h
   refine p2 R 27 R 28 R (vX R el90 R c125.1 c125.2) <| lS R R sh95 R R <| WL.w [] R (qj R) R R .nil (w_alloc R z95 (l := [EqA (strV ([] : Str)), iA 0, iA 0, EqA (.slice none 0 0)]) R) ?_
   rintro _ _ ⟨b126, rfl, rfl⟩
   refine WL.w0 [0] R (qj R) R (.s 10 R (.s 30 R .nil)) (w_store (L := [EqA (strV ((rd t102 x9).fName)), iA ((rd t102 x9).fLow), iA ((rd t102 x9).fHigh), SlcA kStr ((rd t102 x9).fNames)]) R sh95 (qz _) R R (leB R) R) ?_
   rintro _ _ ⟨rfl, rfl⟩
   refine qx <| qw (env' := [(10, _), (9, _), (8, _), (7, _)]) (.o4 R (.nil _)) <| qq <| sr <| WL.p R R R .nil (q_lit0 R el93 gr9) <| p1 R 10 R (q_fieldP R fo95_3) <| WL.q (qj R) R R (.s 32 R .nil) (q_loadB R sh93 (i := 0) R R) ?_
   obtain ⟨c127, h⟩ := qV h
   refine p2 R 31 R 33 R (QS.of_new (w_appendZ (kd := kStr) R el93 R gr9 c127)) <| p1 R 10 R (q_fieldP R fo95_3) <| WL.w0 [0] R (qj R) R (.s 35 R (.s 34 R .nil)) (w_store (L := [EqA (strV ((rd t102 x9).fName)), iA ((rd t102 x9).fLow), iA ((rd t102 x9).fHigh), SlcA kStr ((rd t102 x9).fNames)]) R sh93 (qW R) R R (leB R) R) ?_
   rintro _ _ ⟨rfl, rfl⟩
   refine nt <| qJ <| mv R R <| WL.q (qj R) R R (.s 10 R .nil) (q_loadBS (l' := [EqA (strV ((rd t102 x9).fName)), iA ((rd t102 x9).fLow), iA ((rd t102 x9).fHigh), SlcA kStr ((rd t102 x9).fNames)]) R sh95 (i := 0) R R R) <| p1 R 37 R (q_lit (kd := kAttr) (ps := [(0, .tmp 37)]) (xs := [.tmp 37]) («as» := [AggA [EqA (strV ((rd t102 x9).fName)), iA ((rd t102 x9).fLow), iA ((rd t102 x9).fHigh), SlcA kStr ((rd t102 x9).fNames)]]) (ys := [(rd t102 x9)]) R R el90 R gr95 R R R (.cons (qz _) .nil)) ?_
   obtain ⟨c128, h⟩ := qV h
   refine WL.w [1] R (qj R) R R (.s 36 R (.s 38 R .nil)) (w_append (kd := kAttr) R el90 R gr95 c128) ?_
   rintro _ _ ⟨v129, rfl, rfl⟩
   refine av R R <| qx <| vJ <| qw (env' := [(7, _), (9, _), (8, _)]) (.o2 R (.one R (.nil _))) <| qq <| qJ <| mv R R ?_
   obtain ⟨c130, h⟩ := qV h
   refine pk R 25 R (vV R c130) <| av R R <| qx <| QN.drop [1] R ?_
   exact next0 v129 (x7 ++ [(rd t102 x9)]) (x9 + 1) _ h (.o2 R (.one R (.nil _)))
  ·refine W.exit <| vq <| vq <| vB <| qq <| sr <| mv R R <| av R R <| ak R <| qx <| qw (env' := [(5, _), (4, _)]) (.o2 R (.nil _)) <| qq ?_
   refine qN ?_
   cases h
   exact QR.f2 R R (.t R) (.t R) (.tup (.cons (.slc 0 R) (.cons (.id _) .nil)))
theorem ref21_attr.con (k : Nat) (a0 : Types) (a1 : Pattern) (a2 : Int) (a3 : Int) (r : (Attr × Bool)) (h : ref21_attr k a0 a1 a2 a3 = some r) : Con Tryz.prog 61 [] [AggA [SlcA kNodeType a0.fNodes, SlcA kEdgeType a0.fEdges], AggA [SlcA kInt a1.fGraph.fNodes, SlcA kEdge a1.fGraph.fEdges, SlcA kSlot a1.fSlots, iA a1.fVars, SlcA kTest a1.fTests], iA a2, iA a3] (RA (TupA [AggA [EqA (strV r.1.fName), iA r.1.fLow, iA r.1.fHigh, SlcA kStr r.1.fNames], bA r.2])) := by
 unfold ref21_attr at h
 refine vZ (N := 51) Tryz.func61 R R R fun w0_ fg_ => sr <| p1 R 0 R (q_box R (qz _)) <| p1 R 1 R (q_box R (qz _)) <| WL.w [] R (qj R) R R .nil (w_alloc R z95 (l := [EqA (strV ([] : Str)), iA 0, iA 0, EqA (.slice none 0 0)]) R) ?_
 rintro _ _ ⟨b100, rfl, rfl⟩
 refine ak R <| nt <| qX <| qX ?_
 refine W.jn1 (Γ := Unit) (fun (_ : Unit) (x21 : Bool) => [(2, iA a2), (3, iA a3), (4, PtrA [SlcA kNodeType a0.fNodes, SlcA kEdgeType a0.fEdges]), (5, PtrA [SlcA kInt a1.fGraph.fNodes, SlcA kEdge a1.fGraph.fEdges, SlcA kSlot a1.fSlots, iA a1.fVars, SlcA kTest a1.fTests]), (8, EqA (.pointer (some ⟨b100, 0, none⟩))), (21, bA x21)]) (fun (_ : Unit) (_ : Bool) => [BoxE b100 [EqA (strV ([] : Str)), iA 0, iA 0, EqA (.slice none 0 0)]]) h (fun _ x21 h => ?_) (fun j103 Kj103 h => ?_)
 ·refine qq ?_
  refine qZ h R (fun hb104 h => ?_) (fun hb104 h => ?_)
  ·refine sr <| WL.p R R R .nil (q_build (is := []) (xs := []) (L := [EqA (strV ([] : Str)), iA 0, iA 0, EqA (.slice none 0 0)]) R R z95 pl95 R R .nil R) <| WL.w0 [0] R (qj R) R (.s 8 R (.s 22 R .nil)) (w_store (L := [EqA (strV ([] : Str)), iA 0, iA 0, EqA (.slice none 0 0)]) R sh95 (qz _) R R (leB R) R) ?_
   rintro _ _ ⟨rfl, rfl⟩
   refine ak R <| nt <| qN <| qy ?_
   cases h
   exact QR.f2 R R (.cs (i := 0) R sh95 R R) (.t R) (.imp (Imp.tup (.cons (Imp.agg (.cons (Imp.id _) (.cons (Imp.id _) (.cons (Imp.id _) (.cons (Imp.nil kStr) .nil))))) (.cons (Imp.id _) .nil))))
  ·refine qK <| qq <| qX <| W.drawK [(0, false), (1, false), (2, false), (3, false), (4, false), (5, false), (6, false), (7, false), (8, false), (9, false), (10, false), (11, false), (12, false)] [] (bm [0, 0, 2, 6, 0, 30, 62, 127, 255, 511, 511, 1023, 4095]) mx (by kernel_rfl) <| qQ R R (.p R (.s 4 R .nil) R (q_loadS R sh35 (leB R) R)) <| df R R R fo42_0 R <| df R R R fo38_0 R <| dl R R R sh26 <| dm R R R ?_
   obtain ⟨c109, h⟩ := qV h
   refine qQ R R (.p R (.s 27 R (.s 28 R .nil)) R (vX R el26 R c109.1 c109.2)) <| dl R R R sh3 ?_
   obtain ⟨t110, ht110, h⟩ := vw h
   refine qQ R R (.p R (.s 24 R (.s 30 R .nil)) R (vQ (f := 86) (A := TupA [SlcA kAttr t110.1, iA t110.2]) (xs := [.tmp 24, .tmp 30]) («as» := [AggA [SlcA kNodeType a0.fNodes, SlcA kEdgeType a0.fEdges], iA (rd a1.fGraph.fNodes a2)]) R ca86 (ref04_Attrs.con k a0 (rd a1.fGraph.fNodes a2) t110 ht110) R)) <| dm R R R <| qQ R R (.p R (.s 23 R .nil) R (vK R R)) <| qQ R R (.p R (.s 23 R .nil) R (vK R R)) <| qQ R R (.p R (.s 32 R .nil) R (q_assign R)) <| qQ R R (.p R (.s 33 R .nil) R (q_assign R)) <| DK.nil <| CSteps.nil <| qw (env' := [(11, _), (10, _), (8, _), (3, _)]) (.o4 R (.nil _)) <| qq <| qX <| qX ?_
   refine W.jn1 (Γ := Unit) (fun (_ : Unit) (x45 : Bool) => [(3, iA a3), (8, EqA (.pointer (some ⟨b100, 0, none⟩))), (10, SlcA kAttr t110.1), (45, bA x45)]) (fun (_ : Unit) (_ : Bool) => [BoxE b100 [EqA (strV ([] : Str)), iA 0, iA 0, EqA (.slice none 0 0)]]) h (fun _ x45 h => ?_) (fun j114 Kj114 h => ?_)
   ·refine qq ?_
    refine qZ h R (fun hb115 h => ?_) (fun hb115 h => ?_)
    ·refine sr <| WL.p R R R .nil (q_build (is := []) (xs := []) (L := [EqA (strV ([] : Str)), iA 0, iA 0, EqA (.slice none 0 0)]) R R z95 pl95 R R .nil R) <| WL.w0 [0] R (qj R) R (.s 8 R (.s 46 R .nil)) (w_store (L := [EqA (strV ([] : Str)), iA 0, iA 0, EqA (.slice none 0 0)]) R sh95 (qz _) R R (leB R) R) ?_
     rintro _ _ ⟨rfl, rfl⟩
     refine ak R <| nt <| qN <| qy ?_
     cases h
     exact QR.f2 R R (.cs (i := 0) R sh95 R R) (.t R) (.imp (Imp.tup (.cons (Imp.agg (.cons (Imp.id _) (.cons (Imp.id _) (.cons (Imp.id _) (.cons (Imp.nil kStr) .nil))))) (.cons (Imp.id _) .nil))))
    ·refine qK <| qq <| sr <| mv R R <| mv R R ?_
     obtain ⟨c116, h⟩ := qV h
     refine p2 R 47 R 48 R (vX R el90 R c116.1 c116.2) <| lS R R sh95 R R <| WL.w0 [0] R (qj R) R (.s 8 R (.s 50 R .nil)) (w_store (L := [EqA (strV ((rd t110.1 a3).fName)), iA ((rd t110.1 a3).fLow), iA ((rd t110.1 a3).fHigh), SlcA kStr ((rd t110.1 a3).fNames)]) R sh95 (qz _) R R (leB R) R) ?_
     rintro _ _ ⟨rfl, rfl⟩
     refine ak R <| qx <| qw (env' := [(9, _), (8, _)]) (.o2 R (.nil _)) <| qq <| qN ?_
     cases h
     exact QR.f2 R R (.cs (i := 0) R sh95 R R) (.t R) (.id _)
   ·refine qJ <| mv R R <| pk R 34 R (qB R R) <| mv R R ?_
    rcases bif_s h with ⟨hb117, h⟩ | ⟨hb117, h⟩
    ·refine sk R R R hb117 <| sk R R R hb117 <| pk R 36 R (vy R hb117) <| mv R R <| sk R R R R <| sk R R R R <| sk R R R R <| sk R R R R <| pk R 40 R (vy R R) <| qx ?_
     exact qw (.o4 R (.nil _)) (Kj114 () true h)
    ·refine wm R R R hb117 R R <| wq R R R hb117 (.s 37 R (.k .nil)) (qB R R).o <| p2 R 36 R 38 R (vz R hb117) <| mv R R ?_
     rcases bif_s h with ⟨hb118, h⟩ | ⟨hb118, h⟩
     ·refine sk R R R hb118 <| sk R R R hb118 <| sk R R R hb118 <| sk R R R hb118 <| pk R 40 R (vy R hb118) <| qx ?_
      exact qw (.o4 R (.nil _)) (Kj114 () true h)
     ·refine wm R R R hb118 R R <| wm R R R hb118 R R <| wq R R R hb118 (.s 42 R .nil) (vN R elS90).o <| wq R R R hb118 (.s 41 R (.s 43 R .nil)) (qB R R).o <| p2 R 40 R 44 R (vz R hb118) <| qx ?_
      exact qw (.o4 R (.nil _)) (Kj114 () (decide (a3 ≥ (t110.1.length : Int))) h)
 ·refine qJ <| mv R R <| pk R 12 R (qB R R) <| mv R R ?_
  rcases bif_s h with ⟨hb119, h⟩ | ⟨hb119, h⟩
  ·refine sk R R R hb119 <| sk R R R hb119 <| sk R R R hb119 <| sk R R R hb119 <| sk R R R hb119 <| sk R R R hb119 <| pk R 14 R (vy R hb119) <| qx ?_
   exact qw (.o4 R (.o2 R (.nil _))) (Kj103 () true h)
  ·refine wm R R R hb119 R R <| wf R R R hb119 R R fo42_0 R <| wf R R R hb119 R R fo38_0 R <| wl R R R hb119 R R sh26 <| wq R R R hb119 (.s 18 R .nil) (vN R elS26).o <| wq R R R hb119 (.s 15 R (.s 19 R .nil)) (qB R R).o <| p2 R 14 R 20 R (vz R hb119) <| qx ?_
   exact qw (.o4 R (.o2 R (.nil _))) (Kj103 () (decide (a2 ≥ (a1.fGraph.fNodes.length : Int))) h)
theorem ref21_bounded.con (k : Nat) (a0 : Int) (r : Bool) (h : ref21_bounded k a0 = some r) : Con Tryz.prog 62 [] [iA a0] (RA (bA r)) := by
 unfold ref21_bounded at h
 refine vZ (N := 9) Tryz.func62 R R R fun w0_ fg_ => sr <| ak R <| nt <| qX ?_
 refine W.jn1 (Γ := Unit) (fun (_ : Unit) (x2 : Bool) => [(2, bA x2)]) (fun (_ : Unit) (_ : Bool) => []) h (fun _ x2 h => ?_) (fun j102 Kj102 h => ?_)
 ·refine qq <| qN ?_
  cases h
  exact vW R R (.t R) (.id _)
 ·refine qJ <| mv R R <| pk R 3 R (qB R R) <| mv R R ?_
  rcases bif_s h with ⟨hb103, h⟩ | ⟨hb103, h⟩
  ·refine wm R R R hb103 R R <| wq R R R hb103 (.s 6 R (.k .nil)) (qB R R).o <| p2 R 5 R 7 R (vy R hb103) <| av R R <| qx ?_
   exact qw (.one R (.nil _)) (Kj102 () (decide (a0 ≤ 1000000)) h)
  ·refine sk R R R hb103 <| sk R R R hb103 <| pk R 5 R (vz R hb103) <| av R R <| qx ?_
   exact qw (.one R (.nil _)) (Kj102 () false h)
theorem ref03_within.con (k : Nat) (a0 : Int) (a1 : Term) (r : Int) (h : ref03_within k a0 a1 = some r) : Con Tryz.prog 155 [] [iA a0, AggA [iA a1.fVar, iA a1.fAdd]] (RA (iA r)) := by
 unfold ref03_within at h
 refine vZ (N := 24) Tryz.func155 R R R fun w0_ fg_ => sr <| p1 R 1 R (q_box R (qz _)) <| ak R <| nt <| qX <| qX ?_
 refine W.jn1 (Γ := Unit) (fun (_ : Unit) (x23 : Bool) => [(23, bA x23)]) (fun (_ : Unit) (_ : Bool) => []) h (fun _ x23 h => ?_) (fun j104 Kj104 h => ?_)
 ·refine qq ?_
  refine qZ h R (fun hb105 h => ?_) (fun hb105 h => ?_)
  ·refine sr <| ak R <| nt <| qN <| qy ?_
   cases h
   exact vW R R (.t R) (.id _)
  ·refine qK <| qq <| sr <| ak R <| nt <| qN ?_
   cases h
   exact vW R R (.t R) (.id _)
 ·refine qJ <| fd R R fo23_0 R <| ld R R sh3 <| pk R 6 R (qB R R) <| mv R R ?_
  rcases bif_s h with ⟨hb106, h⟩ | ⟨hb106, h⟩
  ·refine sk R R R hb106 <| sk R R R hb106 <| sk R R R hb106 <| sk R R R hb106 <| pk R 8 R (vy R hb106) <| mv R R <| sk R R R R <| sk R R R R <| sk R R R R <| pk R 14 R (vy R R) <| mv R R <| sk R R R R <| sk R R R R ?_
   refine sk R R R R <| pk R 19 R (vy R R) <| qx ?_
   exact qw (.one R (.nil _)) (Kj104 () true h)
  ·refine wf R R R hb106 R R fo23_0 R <| wl R R R hb106 R R sh3 <| wm R R R hb106 R R <| wq R R R hb106 (.s 10 R (.s 11 R .nil)) (qB R R).o <| p2 R 8 R 12 R (vz R hb106) <| mv R R ?_
   rcases bif_s h with ⟨hb107, h⟩ | ⟨hb107, h⟩
   ·refine sk R R R hb107 <| sk R R R hb107 <| sk R R R hb107 <| pk R 14 R (vy R hb107) <| mv R R <| sk R R R R <| sk R R R R <| sk R R R R <| pk R 19 R (vy R R) <| qx ?_
    exact qw (.one R (.nil _)) (Kj104 () true h)
   ·refine wf R R R hb107 R R fo23_1 R <| wl R R R hb107 R R sh3 <| wq R R R hb107 (.s 16 R (.k .nil)) (qB R R).o <| p2 R 14 R 17 R (vz R hb107) <| mv R R ?_
    rcases bif_s h with ⟨hb108, h⟩ | ⟨hb108, h⟩
    ·refine sk R R R hb108 <| sk R R R hb108 <| sk R R R hb108 <| pk R 19 R (vy R hb108) <| qx ?_
     exact qw (.one R (.nil _)) (Kj104 () true h)
    ·refine wf R R R hb108 R R fo23_1 R <| wl R R R hb108 R R sh3 <| wq R R R hb108 (.s 21 R (.k .nil)) (qB R R).o <| p2 R 19 R 22 R (vz R hb108) <| qx ?_
     exact qw (.one R (.nil _)) (Kj104 () (decide (a1.fAdd > 1000000)) h)
theorem ref03_One.con (k : Nat) (a0 : Int) (a1 : Test) (r : Int) (h : ref03_One k a0 a1 = some r) : Con Tryz.prog 115 [] [iA a0, AggA [iA a1.fKind, iA a1.fLeft.fVar, iA a1.fLeft.fAdd, iA a1.fRight.fVar, iA a1.fRight.fAdd]] (RA (iA r)) := by
 unfold ref03_One at h
 refine vZ (N := 25) Tryz.func115 R R R fun w0_ fg_ => sr <| p1 R 1 R (q_box R (qz _)) <| ak R <| nt <| qX <| qX ?_
 refine W.jn1 (Γ := Unit) (fun (_ : Unit) (x13 : Bool) => [(0, iA a0), (3, PtrA [iA a1.fKind, iA a1.fLeft.fVar, iA a1.fLeft.fAdd, iA a1.fRight.fVar, iA a1.fRight.fAdd]), (13, bA x13)]) (fun (_ : Unit) (_ : Bool) => []) h (fun _ x13 h => ?_) (fun j102 Kj102 h => ?_)
 ·refine qq ?_
  refine qZ h R (fun hb103 h => ?_) (fun hb103 h => ?_)
  ·refine sr <| ak R <| nt <| qN <| qy ?_
   cases h
   exact vW R R (.t R) (.id _)
  ·refine qK <| qq <| qX <| sr <| mv R R <| fd R R fo86_1 R <| lS R R sh23 R R ?_
   obtain ⟨t104, ht104, h⟩ := vw h
   refine p2 R 14 R 16 R (vQ (f := 155) (A := iA t104) (xs := [.tmp 14, .tmp 16]) («as» := [iA a0, AggA [iA a1.fLeft.fVar, iA a1.fLeft.fAdd]]) R ca155 (ref03_within.con k a0 a1.fLeft t104 ht104) R) <| av R R <| nx <| mv R R <| pk R 18 R (qB R R) <| nt ?_
   refine qZ h R (fun hb105 h => ?_) (fun hb105 h => ?_)
   ·refine sr <| mv R R <| av R R <| qx <| qw (env' := [(4, _)]) (.one R (.nil _)) <| qq <| qN <| qy ?_
    cases h
    exact vW R R (.t R) (.id _)
   ·refine qK <| qw (env' := [(3, _), (0, _)]) (.o2 R (.nil _)) <| qq <| sr <| mv R R <| fd R R fo86_2 R <| lS R R sh23 R R ?_
    obtain ⟨t106, ht106, h⟩ := vw h
    refine p2 R 21 R 23 R (vQ (f := 155) (A := iA t106) (xs := [.tmp 21, .tmp 23]) («as» := [iA a0, AggA [iA a1.fRight.fVar, iA a1.fRight.fAdd]]) R ca155 (ref03_within.con k a0 a1.fRight t106 ht106) R) <| av R R <| nt <| qN ?_
    cases h
    exact vW R R (.t R) (.id _)
 ·refine qJ <| fd R R fo86_0 R <| ld R R sh3 <| pk R 7 R (qB R R) <| mv R R ?_
  rcases bif_s h with ⟨hb107, h⟩ | ⟨hb107, h⟩
  ·refine wf R R R hb107 R R fo86_0 R <| wl R R R hb107 R R sh3 <| wq R R R hb107 (.s 11 R (.k .nil)) (qB R R).o <| p2 R 9 R 12 R (vy R hb107) <| qx ?_
   exact qw (.o2 R (.one R (.nil _))) (Kj102 () (a1.fKind != 2) h)
  ·refine sk R R R hb107 <| sk R R R hb107 <| sk R R R hb107 <| pk R 9 R (vz R hb107) <| qx ?_
   exact qw (.o2 R (.one R (.nil _))) (Kj102 () false h)
theorem ref03_Valid.con (k : Nat) (a0 : Int) (a1 : (List Test)) (r : Int) (h : ref03_Valid k a0 a1 = some r) : Con Tryz.prog 63 [] [iA a0, SlcA kTest a1] (RA (iA r)) := by
 unfold ref03_Valid at h
 refine vZ (N := 31) Tryz.func63 R R R fun w0_ fg_ => sr <| ak R <| nt <| qX <| qX ?_
 refine W.jn1 (Γ := Unit) (fun (_ : Unit) (x12 : Bool) => [(0, iA a0), (1, SlcA kTest a1), (12, bA x12)]) (fun (_ : Unit) (_ : Bool) => []) h (fun _ x12 h => ?_) (fun j102 Kj102 h => ?_)
 ·refine qq ?_
  refine qZ h R (fun hb103 h => ?_) (fun hb103 h => ?_)
  ·refine sr <| ak R <| nt <| qN <| qy ?_
   cases h
   exact vW R R (.t R) (.id _)
  ·refine qK <| qq <| qX <| sr <| mv R R <| p1 R 13 R (vN R elS40) <| pk R 14 R (qB R R) <| nt ?_
   refine qZ h R (fun hb104 h => ?_) (fun hb104 h => ?_)
   ·refine sr <| ak R <| nt <| qN <| qy ?_
    cases h
    exact vW R R (.t R) (.id _)
   ·refine qK <| qq <| qX <| sr <| ak R <| nt <| vj ?_
    refine W.loop1 (Γ := Unit) (fun (_ : Unit) (x5 : Int) => [(0, iA a0), (1, SlcA kTest a1), (5, iA x5)]) (fun (_ : Unit) (_ : Int) => []) h () (.o2 R (.one R (.nil _))) R (fun rec0 K0 next0 _ x5 h => ?_)
    unfold ref03_Valid.b0 at h
    refine qX <| sr <| mv R R <| mv R R <| p1 R 17 R (vN R elS40) <| p2 R 16 R 18 R (qB R R) <| nt ?_
    refine qZ h R (fun hb115 h => ?_) (fun hb115 h => ?_)
    ·refine qK <| qq <| qX <| vj <| sr <| mv R R <| mv R R <| mv R R ?_
     obtain ⟨c116, h⟩ := qV h
     refine p2 R 23 R 24 R (vX R el40 R c116.1 c116.2) <| lS R R sh86 R R ?_
     obtain ⟨t117, ht117, h⟩ := vw h
     refine p2 R 22 R 26 R (vQ (f := 115) (A := iA t117) (xs := [.tmp 22, .tmp 26]) («as» := [iA a0, AggA [iA ((rd a1 x5).fKind), iA ((rd a1 x5).fLeft.fVar), iA ((rd a1 x5).fLeft.fAdd), iA ((rd a1 x5).fRight.fVar), iA ((rd a1 x5).fRight.fAdd)]]) R ca115 (ref03_One.con k a0 (rd a1 x5) t117 ht117) R) <| av R R <| qx <| qw (env' := [(6, _), (5, _), (1, _), (0, _)]) (.o4 R (.nil _)) <| qq <| sr <| mv R R <| pk R 28 R (qB R R) <| nt ?_
     refine qZ h R (fun hb118 h => ?_) (fun hb118 h => ?_)
     ·refine sr <| mv R R <| av R R <| qx <| qw (env' := [(4, _)]) (.one R (.nil _)) <| qq <| qN <| vx <| qy <| qy <| vx <| qy ?_
      cases h
      exact vW R R (.t R) (.id _)
     ·refine qK <| vJ <| qq <| qJ <| mv R R ?_
      obtain ⟨c119, h⟩ := qV h
      refine pk R 20 R (vV R c119) <| av R R <| qx ?_
      exact next0 () (x5 + 1) _ h (.o2 R (.one R (.nil _)))
    ·refine W.exit <| vq <| vq <| vB <| qw (env' := []) (.nil _) <| qq <| sr <| ak R <| nt <| qN ?_
     cases h
     exact vW R R (.t R) (.id _)
 ·refine qJ <| mv R R <| pk R 7 R (qB R R) <| mv R R ?_
  rcases bif_s h with ⟨hb120, h⟩ | ⟨hb120, h⟩
  ·refine sk R R R hb120 <| sk R R R hb120 <| pk R 9 R (vy R hb120) <| qx ?_
   exact qw (.o2 R (.one R (.nil _))) (Kj102 () true h)
  ·refine wm R R R hb120 R R <| wq R R R hb120 (.s 10 R (.k .nil)) (qB R R).o <| p2 R 9 R 11 R (vz R hb120) <| qx ?_
   exact qw (.o2 R (.one R (.nil _))) (Kj102 () (decide (a0 > 12)) h)
end Go.Proofs.YtcgdfjpeboiioaaGreat
