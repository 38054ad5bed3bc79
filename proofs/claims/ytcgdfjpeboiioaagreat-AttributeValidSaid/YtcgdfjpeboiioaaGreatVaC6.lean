import Derived.Test.YtcgdfjpeboiioaaGreatVaC5
namespace Go.Proofs.YtcgdfjpeboiioaaGreat
open Go Go.Abs
attribute [local irreducible] Tryz.prog
theorem difference_arcs.con (k : Nat) (a0 : (List Test)) (r : (List Arc)) (h : difference_arcs k a0 = some r) : Con Tryz.prog 90 [] [SlcA kTest a0] (RA (SlcA kArc r)) := by
 unfold difference_arcs at h
 refine vJ (N := 54) Tryz.func90 R R R fun w0_ fg_ => sr <| ak R <| nx <| ak R <| nt <| qX <| qX ?_
 refine qJ <| mv R R <| p1 R 7 R (vN R elS40) <| mk_ R <| nt <| vx <| W.to (StTo.newNil 155 kArc) <| W.to (StTo.as 3 R Imp.nilHd) ?_
 refine W.loop2 (Γ := Value) (fun (g0 : Value) (_ : (List Arc)) (x9 : Int) => [(3, HdA g0), (7, SlcA kTest a0), (8, iA (a0.length : Int)), (9, iA x9)]) (fun (g0 : Value) (x3 : (List Arc)) (_ : Int) => [SlE 155 g0 kArc x3]) h (.slice none 0 0) (.o4 R (.nil _)) R (fun rec0 K0 next0 g0 x3 x9 h => ?_)
 unfold difference_arcs.b0 at h
 refine sr <| p2 R 9 R 8 R (qN R R) <| nt <| qX ?_
 refine qZ h R (fun hb145 h => ?_) (fun hb145 h => ?_)
 ·refine qB <| qq <| qX <| vx <| sr <| mv R R ?_
  obtain ⟨c146, h⟩ := qK h
  refine p2 R 7 R 9 R (vX R el40 R c146.1 c146.2) <| lS R R sh86 R R <| WL.w [] R (qj R) R R .nil (w_alloc R z86 (l := [iA 0, iA 0, iA 0, iA 0, iA 0]) R) ?_
  rintro _ _ ⟨b147, rfl, rfl⟩
  refine av R R <| WL.w0 [0] R (qj R) R (.s 5 R (.s 13 R .nil)) (w_store (L := [iA ((rd a0 x9).fKind), iA ((rd a0 x9).fLeft.fVar), iA ((rd a0 x9).fLeft.fAdd), iA ((rd a0 x9).fRight.fVar), iA ((rd a0 x9).fRight.fAdd)]) R sh86 (qy _) R R (leB R) R) ?_
  rintro _ _ ⟨rfl, rfl⟩
  refine qx <| QN.to (StTo.still [0] 5 R R) <| qq <| sr <| mv R R <| pk R 14 R (q_build (is := [0, 1]) (xs := [.tmp 14, .const (.int .i64 1)]) (L := [iA x9, iA 1]) R R z52 pl52 R R (.cons (qW R) (.cons (qW R) .nil)) R) <| fd R R fo86_1 R <| fd R R fo23_0 R <| ld R R sh3 ?_
  obtain ⟨c148, h⟩ := qK h
  refine pk R 18 R (vK R c148) <| fd R R fo86_2 R <| fd R R fo23_0 R <| ld R R sh3 ?_
  obtain ⟨c149, h⟩ := qK h
  refine pk R 22 R (vK R c149) <| fd R R fo86_2 R <| fd R R fo23_1 R <| ld R R sh3 <| fd R R fo86_1 R <| fd R R fo23_1 R <| ld R R sh3 ?_
  obtain ⟨c150, h⟩ := qK h
  refine p2 R 26 R 29 R (q_subR R c150) <| WL.p R R R (.s 15 R (.s 19 R (.s 23 R (.s 30 R .nil)))) (q_build (is := [0, 1, 2, 3]) (xs := [.tmp 15, .tmp 19, .tmp 23, .tmp 30]) (L := [iA x9, iA 1, iA ((rd a0 x9).fLeft.fVar + 1), iA ((rd a0 x9).fRight.fVar + 1), iA ((rd a0 x9).fRight.fAdd - (rd a0 x9).fLeft.fAdd)]) R R z155 pl155 R R (.cons (qy _) (.cons (qW R) (.cons (qW R) (.cons (qW R) .nil)))) R) <| WL.w [] R (qj R) R R .nil (w_alloc R z155 (l := [iA 0, iA 0, iA 0, iA 0, iA 0]) R) ?_
  rintro _ _ ⟨b151, rfl, rfl⟩
  refine WL.w0 [0] R (qj R) R (.s 6 R (.s 31 R .nil)) (w_store (L := [iA x9, iA 1, iA ((rd a0 x9).fLeft.fVar + 1), iA ((rd a0 x9).fRight.fVar + 1), iA ((rd a0 x9).fRight.fAdd - (rd a0 x9).fLeft.fAdd)]) R sh155 (qy _) R R (leB R) R) ?_
  rintro _ _ ⟨rfl, rfl⟩
  refine qx <| QN.to (StTo.still [0] 6 R R) <| qw (env' := [(6, _), (4, _), (5, _), (9, _), (8, _), (7, _), (3, _)]) (.o4 R (.o2 R (.one R (.nil _)))) <| qq <| sr <| mv R R <| lS R R sh155 R R <| p1 R 33 R (q_lit (kd := kArc) (ps := [(0, .tmp 33)]) (xs := [.tmp 33]) («as» := [AggA [iA x9, iA 1, iA ((rd a0 x9).fLeft.fVar + 1), iA ((rd a0 x9).fRight.fVar + 1), iA ((rd a0 x9).fRight.fAdd - (rd a0 x9).fLeft.fAdd)]]) (ys := [(Arc.mk (Use.mk x9 1) ((rd a0 x9).fLeft.fVar + 1) ((rd a0 x9).fRight.fVar + 1) ((rd a0 x9).fRight.fAdd - (rd a0 x9).fLeft.fAdd))]) R R el146 R gr155 R R R (.cons (qy _) .nil)) ?_
  obtain ⟨c152, h⟩ := qK h
  refine WL.w [0] R (qj R) R R (.s 32 R (.s 34 R .nil)) (w_append (kd := kArc) R el146 R gr155 c152) ?_
  rintro _ _ ⟨v153, rfl, rfl⟩
  refine av R R <| nx <| fd R R fo86_0 R <| ld R R sh3 <| pk R 37 R (qN R R) <| qx <| qw (env' := [(38, _), (3, _), (6, _), (4, _), (9, _), (8, _), (7, _)]) (.o4 R (.o2 R (.one R (.nil _)))) <| qq ?_
  refine qZ h R (fun hb158 h => ?_) (fun hb158 h => ?_)
  ·refine qJ <| mv R R <| mv R R <| pk R 40 R (q_build (is := [0, 1]) (xs := [.tmp 40, .const (.int .i64 (-1))]) (L := [iA x9, iA (-1)]) R R z52 pl52 R R (.cons (qW R) (.cons (qW R) .nil)) R) <| fd R R fo155_2 R <| ld R R sh3 <| fd R R fo155_1 R <| ld R R sh3 <| fd R R fo155_3 R <| ld R R sh3 ?_
   obtain ⟨c159, h⟩ := qK h
   refine p1 R 47 R (q_negR R c159) <| WL.p R R R (.s 41 R (.s 43 R (.s 45 R (.s 48 R .nil)))) (q_build (is := [0, 1, 2, 3]) (xs := [.tmp 41, .tmp 43, .tmp 45, .tmp 48]) (L := [iA x9, iA (-1), iA ((rd a0 x9).fRight.fVar + 1), iA ((rd a0 x9).fLeft.fVar + 1), iA (0 - ((rd a0 x9).fRight.fAdd - (rd a0 x9).fLeft.fAdd))]) R R z155 pl155 R R (.cons (qy _) (.cons (qW R) (.cons (qW R) (.cons (qW R) .nil)))) R) <| p1 R 49 R (q_lit (kd := kArc) (ps := [(0, .tmp 49)]) (xs := [.tmp 49]) («as» := [AggA [iA x9, iA (-1), iA ((rd a0 x9).fRight.fVar + 1), iA ((rd a0 x9).fLeft.fVar + 1), iA (0 - ((rd a0 x9).fRight.fAdd - (rd a0 x9).fLeft.fAdd))]]) (ys := [(Arc.mk (Use.mk x9 (-1)) ((rd a0 x9).fRight.fVar + 1) ((rd a0 x9).fLeft.fVar + 1) (0 - ((rd a0 x9).fRight.fAdd - (rd a0 x9).fLeft.fAdd)))]) R R el146 R gr155 R R R (.cons (qy _) .nil)) ?_
   obtain ⟨c160, h⟩ := qK h
   refine WL.w [0] R (qj R) R R (.s 39 R (.s 50 R .nil)) (w_append (kd := kArc) R el146 R gr155 c160) ?_
   rintro _ _ ⟨v161, rfl, rfl⟩
   refine av R R <| qx <| vZ <| qw (env' := [(3, _), (9, _), (8, _), (7, _)]) (.o4 R (.nil _)) <| qq <| qJ ?_
   obtain ⟨c162, h⟩ := qK h
   refine pk R 9 R (vK R c162) <| mv R R <| qx ?_
   exact next0 v161 ((x3 ++ [(Arc.mk (Use.mk x9 1) ((rd a0 x9).fLeft.fVar + 1) ((rd a0 x9).fRight.fVar + 1) ((rd a0 x9).fRight.fAdd - (rd a0 x9).fLeft.fAdd))]) ++ [(Arc.mk (Use.mk x9 (-1)) ((rd a0 x9).fRight.fVar + 1) ((rd a0 x9).fLeft.fVar + 1) (0 - ((rd a0 x9).fRight.fAdd - (rd a0 x9).fLeft.fAdd)))]) (x9 + 1) _ h (.o4 R (.nil _))
  ·refine qB <| vZ <| qq <| qJ ?_
   obtain ⟨c163, h⟩ := qK h
   refine pk R 9 R (vK R c163) <| mv R R <| qx ?_
   exact next0 v153 (x3 ++ [(Arc.mk (Use.mk x9 1) ((rd a0 x9).fLeft.fVar + 1) ((rd a0 x9).fRight.fVar + 1) ((rd a0 x9).fRight.fAdd - (rd a0 x9).fLeft.fAdd))]) (x9 + 1) _ h (.o4 R (.nil _))
 ·refine W.exit <| qV <| qV <| vB <| qq <| sr <| mv R R <| av R R <| nt <| vq ?_
  cases h
  exact vW R R (.t R) (.slc 0 R)
theorem difference_distances.con (k : Nat) (a0 : Int) (a1 : (List Arc)) (r : ((List Int) × Bool)) (h : difference_distances k a0 a1 = some r) : Con Tryz.prog 91 [] [iA a0, SlcA kArc a1] (RA (TupA [SlcA kInt r.1, bA r.2])) := by
 unfold difference_distances at h
 refine vJ (N := 49) Tryz.func91 R R R fun w0_ fg_ => sr <| ak R <| ak R <| nx <| mv R R ?_
 obtain ⟨c100, h⟩ := qK h
 refine pk R 11 R (vK R c100) ?_
 obtain ⟨c101, h⟩ := qK h
 refine WL.w [] R (qj R) R R (.s 12 R (.s 12 R .nil)) (w_make (kd := kInt) (z := (0 : Int)) R el26 R gr3 z3 R c101.1 c101.2) ?_
 rintro _ _ ⟨v102, rfl, rfl⟩
 refine av R R <| nt <| qX <| sr <| mv R R ?_
 obtain ⟨c103, h⟩ := qK h
 refine pk R 14 R (vK R c103) <| mk_ R <| qx <| qw (env' := [(16, _), (15, _), (6, _), (1, _)]) (.o4 R (.nil _)) <| qq <| vx ?_
 refine W.loop2 (Γ := Unit) (fun (_ : Unit) (_ : (List Int)) (x16 : Int) => [(1, SlcA kArc a1), (6, HdA v102), (15, iA (a0 + 2)), (16, iA x16)]) (fun (_ : Unit) (x6 : (List Int)) (_ : Int) => [SlE 3 v102 kInt x6]) h () (.o4 R (.nil _)) R (fun rec0 K0 next0 _ x6 x16 h => ?_)
 unfold difference_distances.b0 at h
 refine sr <| p2 R 16 R 15 R (qN R R) <| nt <| qX ?_
 refine qZ h R (fun hb210 h => ?_) (fun hb210 h => ?_)
 ·refine qB <| qq <| qX <| vx <| sr <| ak R <| nt <| qX <| sr <| mv R R ?_
  refine p1 R 18 R (vN R elS146) <| mk_ R <| nt <| vx ?_
  refine W.loop3 (Γ := Unit) (fun (_ : Unit) (_ : (List Int)) (x7 : Bool) (x20 : Int) => [(1, SlcA kArc a1), (6, HdA v102), (15, iA (a0 + 2)), (16, iA x16), (7, bA x7), (18, SlcA kArc a1), (19, iA (a1.length : Int)), (20, iA x20)]) (fun (_ : Unit) (x6' : (List Int)) (_ : Bool) (_ : Int) => [SlE 3 v102 kInt x6']) h () (.o4 R (.o4 R (.nil _))) R (fun rec1 K1 next1 _ x6' x7 x20 h => ?_)
  unfold difference_distances.b1 at h
  refine sr <| p2 R 20 R 19 R (qN R R) <| nt <| qX ?_
  refine qZ h R (fun hb245 h => ?_) (fun hb245 h => ?_)
  ·refine qB <| qq <| qX <| vx <| sr ?_
   obtain ⟨c246, h⟩ := qK h
   refine p2 R 18 R 20 R (vX R el146 R c246.1 c246.2) <| lS R R sh155 R R <| WL.w [] R (qj R) R R .nil (w_alloc R z155 (l := [iA 0, iA 0, iA 0, iA 0, iA 0]) R) ?_
   rintro _ _ ⟨b247, rfl, rfl⟩
   refine WL.w0 [0] R (qj R) R (.s 9 R (.s 23 R .nil)) (w_store (L := [iA ((rd a1 x20).fuse.fTest), iA ((rd a1 x20).fuse.fSign), iA ((rd a1 x20).ffrom), iA ((rd a1 x20).fto), iA ((rd a1 x20).fmost)]) R sh155 (qy _) R R (leB R) R) ?_
   rintro _ _ ⟨rfl, rfl⟩
   refine qx <| QN.to (StTo.still [0] 9 R R) <| qq <| qX <| W.drawK [(0, false), (1, false), (2, false), (3, true), (4, true), (5, false), (6, false), (7, false), (8, false)] [] (bm [0, 0, 2, 7, 15, 0, 32, 127, 255]) mx (by kernel_rfl) <| dm R R R <| df R R R fo155_2 R <| dl R R R sh3 ?_
   obtain ⟨c252, h⟩ := qK h
   refine qz R R (.o R (.s 24 R (.s 26 R .nil)) R (q_indexO R el26 (j := 0) R c252.1 c252.2)) <| qz R R (.o R (.s 27 R .nil) R (q_loadEl R sh3 (j := 0) R R c252.1 c252.2 R)) <| df R R R fo155_3 R <| dl R R R sh3 ?_
   obtain ⟨c253, h⟩ := qK h
   refine qz R R (.p R (.s 28 R (.s 30 R .nil)) R (vK R c253)) <| qz R R (.p R (.s 31 R .nil) R (q_assign R)) <| DK.nil <| CSteps.nil <| qw (env' := [(10, _), (9, _), (20, _), (19, _), (18, _), (7, _), (16, _), (15, _), (6, _), (1, _)]) (.o4 R (.o4 R (.o2 R (.nil _)))) <| qq <| sr <| mv R R <| mv R R <| fd R R fo155_1 R <| ld R R sh3 ?_
   obtain ⟨c254, h⟩ := qK h
   refine WL.q (qj R) R R (.s 33 R (.s 35 R .nil)) (q_indexO R el26 (j := 0) R c254.1 c254.2) <| WL.q (qj R) R R (.s 36 R .nil) (q_loadEl R sh3 (j := 0) R R c254.1 c254.2 R) <| p2 R 32 R 37 R (qN R R) <| nt ?_
   refine qZ h R (fun hb257 h => ?_) (fun hb257 h => ?_)
   ·refine qJ <| mv R R <| fd R R fo155_1 R <| ld R R sh3 <| mv R R ?_
    obtain ⟨c258, h⟩ := qK h
    refine WL.q (qj R) R R (.s 39 R (.s 41 R .nil)) (q_indexO R el26 (j := 0) R c258.1 c258.2) <| WL.w0 [0] R (qj R) R (.s 43 R (.s 42 R .nil)) (w_storeEl (kd := kInt) (z := ((rd x6' ((rd a1 x20).fto)) + (rd a1 x20).fmost)) R sh3 (qW R) R R R c258.1 c258.2 R R) ?_
    rintro _ _ ⟨rfl, rfl⟩
    refine ak R <| qx <| vZ <| qw (env' := [(7, _), (20, _), (19, _), (18, _), (16, _), (15, _), (6, _), (1, _)]) (.o4 R (.o4 R (.nil _))) <| qq <| qJ ?_
    obtain ⟨c259, h⟩ := qK h
    refine pk R 20 R (vK R c259) <| mv R R <| qx ?_
    exact next1 () (x6'.set ((rd a1 x20).ffrom : Int).toNat ((rd x6' ((rd a1 x20).fto)) + (rd a1 x20).fmost)) true (x20 + 1) _ h (.o4 R (.o4 R (.nil _)))
   ·refine qB <| vZ <| qw (env' := [(20, _), (19, _), (18, _), (7, _), (16, _), (15, _), (6, _), (1, _)]) (.o4 R (.o4 R (.nil _))) <| qq <| qJ ?_
    obtain ⟨c260, h⟩ := qK h
    refine pk R 20 R (vK R c260) <| mv R R <| qx ?_
    exact next1 () x6' x7 (x20 + 1) _ h (.o4 R (.o4 R (.nil _)))
  ·refine W.exit <| qV <| qV <| vB <| qq <| sr <| mv R R <| p1 R 45 R (q_not R) <| nt ?_
   refine qZ h R (fun hb261 h => ?_) (fun hb261 h => ?_)
   ·refine sr <| mv R R <| av R R <| ak R <| qx <| qw (env' := [(5, _), (4, _)]) (.o2 R (.nil _)) <| qq <| vq <| vz <| qQ <| qQ <| vz ?_
    refine qQ ?_
    cases h
    exact QR.f2 R R (.t R) (.t R) (.tup (.cons (.slc 0 R) (.cons (.id _) .nil)))
   ·refine qB <| vZ <| qw (env' := [(16, _), (15, _), (6, _), (1, _)]) (.o4 R (.nil _)) <| qq <| qJ ?_
    obtain ⟨c262, h⟩ := qK h
    refine pk R 16 R (vK R c262) <| mv R R <| qx ?_
    exact next0 () x6' (x16 + 1) _ h (.o4 R (.nil _))
 ·refine W.exit <| qV <| qV <| vB <| qq <| sr <| ak R <| ak R <| nt <| vq ?_
  cases h
  exact QR.f2 R R (.t R) (.t R) (.imp (Imp.tup (.cons (Imp.nil kInt) (.cons (Imp.id _) .nil))))
theorem bits_Mul32.con (k : Nat) (a0 : Int) (a1 : Int) (r : (Int × Int)) (h : bits_Mul32 k a0 a1 = some r) : Con Tryz.prog 197 [] [EqA (.int .u32 a0), EqA (.int .u32 a1)] (RA (TupA [EqA (.int .u32 r.1), EqA (.int .u32 r.2)])) := by
 unfold bits_Mul32 at h
 refine vJ (N := 17) Tryz.func197 R R R fun w0_ fg_ => sr <| ak R <| ak R <| nx <| mv R R <| p1 R 7 R (q_conv R cv206 cvS242) <| mv R R <| p1 R 9 R (q_conv R cv206 cvS242) ?_
 refine p2 R 8 R 10 R (qN R R) <| av R R <| qx <| qw (env' := [(6, _)]) (.one R (.nil _)) <| qq <| sr <| mv R R <| pk R 12 R (q_shrN R (by decide)) <| p1 R 13 R (q_conv R cv242 cvS206) <| mv R R <| p1 R 15 R (q_conv R cv242 cvS206) <| av R R ?_
 refine av R R <| nt <| vq ?_
 cases h
 exact QR.f2 R R (.t R) (.t R) (.id _)
theorem bits_Mul64.con (k : Nat) (a0 : Int) (a1 : Int) (r : (Int × Int)) (h : bits_Mul64 k a0 a1 = some r) : Con Tryz.prog 198 [] [EqA (.int .u64 a0), EqA (.int .u64 a1)] (RA (TupA [EqA (.int .u64 r.1), EqA (.int .u64 r.2)])) := by
 unfold bits_Mul64 at h
 refine vJ (N := 51) Tryz.func198 R R R fun w0_ fg_ => sr <| ak R <| ak R <| nx <| mv R R <| pk R 14 R (q_bits R R) <| av R R <| qx ?_
 refine qq <| sr <| mv R R <| pk R 16 R (q_shrN R (by decide)) <| av R R <| nx <| mv R R <| pk R 18 R (q_bits R R) <| av R R ?_
 refine qx <| qw (env' := [(8, _), (7, _), (6, _), (1, _), (0, _)]) (.o4 R (.one R (.nil _))) <| qq <| sr <| mv R R <| pk R 20 R (q_shrN R (by decide)) <| av R R <| nx <| mv R R ?_
 refine mv R R <| p2 R 22 R 23 R (qN R R) <| av R R <| nx <| mv R R <| mv R R <| p2 R 25 R 26 R (qN R R) <| mv R R <| pk R 28 R (q_shrN R (by decide)) <| p2 R 27 R 29 R (qN R R) ?_
 refine av R R <| qx <| qw (env' := [(11, _), (9, _), (7, _), (6, _), (1, _), (0, _)]) (.o4 R (.o2 R (.nil _))) <| qq <| sr <| mv R R <| pk R 31 R (q_bits R R) <| av R R <| nx ?_
 refine mv R R <| pk R 33 R (q_shrN R (by decide)) <| av R R <| nx <| mv R R <| mv R R <| mv R R <| p2 R 36 R 37 R (qN R R) <| p2 R 35 R 38 R (qN R R) <| av R R ?_
 refine qx <| qw (env' := [(12, _), (13, _), (9, _), (7, _), (1, _), (0, _)]) (.o4 R (.o2 R (.nil _))) <| qq <| sr <| mv R R <| mv R R <| p2 R 40 R 41 R (qN R R) <| mv R R <| p2 R 42 R 43 R (qN R R) <| mv R R <| pk R 45 R (q_shrN R (by decide)) <| p2 R 44 R 46 R (qN R R) ?_
 refine av R R <| qx <| qw (env' := [(4, _), (1, _), (0, _)]) (.o2 R (.one R (.nil _))) <| qq <| sr <| mv R R <| mv R R <| p2 R 48 R 49 R (qN R R) <| av R R <| nt <| vq ?_
 cases h
 exact QR.f2 R R (.t R) (.t R) (.id _)
theorem bits_Mul.con (k : Nat) (a0 : Int) (a1 : Int) (r : (Int × Int)) (h : bits_Mul k a0 a1 = some r) : Con Tryz.prog 174 [] [EqA (.int .u64 a0), EqA (.int .u64 a1)] (RA (TupA [EqA (.int .u64 r.1), EqA (.int .u64 r.2)])) := by
 unfold bits_Mul at h
 refine vJ (N := 30) Tryz.func174 R R R fun w0_ fg_ => sr <| ak R <| ak R <| nt <| qX <| W.condKF <| qB <| qq <| sr ?_
 refine mv R R <| mv R R ?_
 obtain ⟨t100, ht100, h⟩ := vw h
 refine p2 R 23 R 24 R (vy (f := 198) (A := TupA [EqA (.int .u64 t100.1), EqA (.int .u64 t100.2)]) (xs := [.tmp 23, .tmp 24]) («as» := [EqA (.int .u64 a0), EqA (.int .u64 a1)]) R ca198 (bits_Mul64.con k a0 a1 t100 ht100) R) <| mv R R <| p1 R 22 R (vV R R) <| p1 R 22 R (vV R R) <| av R R <| av R R <| qx <| qw (env' := [(9, _), (8, _)]) (.o2 R (.nil _)) <| qq <| sr <| mv R R <| mv R R ?_
 refine av R R <| av R R <| nt <| vq ?_
 cases h
 exact QR.f2 R R (.t R) (.t R) (.id _)
theorem slices_Repeat_int.con (k : Nat) (a0 : (List Int)) (a1 : Int) (r : (List Int)) (h : slices_Repeat_int k a0 a1 = some r) : Con Tryz.prog 142 [] [SlcA kInt a0, iA a1] (RApp 3 kInt r) := by
 unfold slices_Repeat_int at h
 refine vJ (N := 48) Tryz.func142 R R R fun w0_ fg_ => sr <| ak R <| nt <| qX <| sr <| mv R R <| pk R 9 R (qN R R) <| nt ?_
 refine qZ h R (fun hb101 h => ?_) (fun hb101 h => ?_)
 ·cases h
 ·refine qB <| qq <| sr <| mv R R <| p1 R 13 R (vN R elS26) <| p1 R 14 R (q_conv R cv220 cvS3) <| mv R R <| p1 R 16 R (q_conv R cv220 cvS3) ?_
  obtain ⟨t102, ht102, h⟩ := vw h
  refine p2 R 15 R 17 R (vy (f := 174) (A := TupA [EqA (.int .u64 t102.1), EqA (.int .u64 t102.2)]) (xs := [.tmp 15, .tmp 17]) («as» := [EqA (.int .u64 (IntKind.u64.wrap (a0.length : Int))), EqA (.int .u64 (IntKind.u64.wrap a1))]) R ca174 (bits_Mul.con k (IntKind.u64.wrap (a0.length : Int)) (IntKind.u64.wrap a1) t102 ht102) R) <| mv R R <| p1 R 12 R (vV R R) <| p1 R 12 R (vV R R) <| av R R <| av R R <| qx <| qw (env' := [(6, _), (5, _), (0, _)]) (.o2 R (.one R (.nil _))) <| qq <| qX <| qX ?_
  refine W.jn1 (Γ := Unit) (fun (_ : Unit) (x26 : Bool) => [(0, SlcA kInt a0), (6, EqA (.int .u64 t102.2)), (26, bA x26)]) (fun (_ : Unit) (_ : Bool) => []) h (fun _ x26 h => ?_) (fun j105 Kj105 h => ?_)
  ·refine qq ?_
   refine qZ h R (fun hb107 h => ?_) (fun hb107 h => ?_)
   ·cases h
   ·refine qB <| qq <| sr <| mv R R <| p1 R 28 R (q_conv R cv3 cvS220) ?_
    obtain ⟨c108, h⟩ := qK h
    refine WL.w [] R (qj R) R R (.s 29 R (.s 29 R .nil)) (w_make (kd := kInt) (z := (0 : Int)) R el26 R gr3 z3 R c108.1 c108.2) ?_
    rintro _ _ ⟨v109, rfl, rfl⟩
    refine av R R <| nx <| mv R R <| mv R R ?_
    obtain ⟨c110, h⟩ := qK h
    refine WL.w [0] R (qj R) R R (.s 31 R (.s 32 R .nil)) (w_copyO R el26 R c110.1 c110.2) ?_
    rintro _ _ ⟨rfl, rfl⟩
    refine av R R <| qx <| qw (env' := [(8, _), (7, _)]) (.o2 R (.nil _)) <| qq <| qX <| vx ?_
    refine W.loop2 (Γ := Unit) (fun (_ : Unit) (_ : (List Int)) (x8 : Int) => [(7, HdA v109), (8, iA x8)]) (fun (_ : Unit) (x7 : (List Int)) (_ : Int) => [SlE 3 v109 kInt x7]) h () (.o2 R (.nil _)) R (fun rec0 K0 next0 _ x7 x8 h => ?_)
    unfold slices_Repeat_int.b0 at h
    refine qX <| sr <| mv R R <| mv R R <| WL.q (qj R) R R (.s 35 R .nil) (q_lenO R elS26 (i := 0) R) <| p2 R 34 R 36 R (qN R R) <| nt ?_
    refine qZ h R (fun hb137 h => ?_) (fun hb137 h => ?_)
    ·refine qB <| qq <| vx <| W.drawK [(0, false), (1, false), (2, false), (3, true), (4, false), (5, false), (6, true)] [7, 8, 9] (bm [0, 0, 0, 6, 0, 0, 48, 126, 255, 511]) mx (by kernel_rfl) <| dm R R R <| dm R R R <| dm R R R ?_
     obtain ⟨c146, h⟩ := qK h
     refine qz R R (.o R (.s 39 R (.s 40 R .nil)) R (q_loO R el26 (j := 0) R c146.1 c146.2)) <| dm R R R <| dm R R R ?_
     obtain ⟨c147, h⟩ := qK h
     refine qz R R (.o R (.s 42 R (.s 43 R .nil)) R (q_hiO R el26 (j := 0) R c147.1 c147.2)) ?_
     obtain ⟨c148, h⟩ := qK h
     obtain ⟨c149, h⟩ := qK h
     refine DK.nil <| CSteps.w [0] R R R R (.s 41 R (.s 44 R .nil)) R (w_copyP R el26 R c148.1 c148.2) ?_
     rintro _ _ ⟨rfl, rfl⟩
     refine CSteps.p R R R (.s 38 R (.s 45 R .nil)) R (vK R c149) <| CSteps.p R R R (.s 46 R .nil) R (q_assign R) <| CSteps.nil <| vZ ?_
     exact next0 () (cpy x7 (x8 : Int).toNat (x7.take (min (x8 : Int).toNat (x7.length - (x8 : Int).toNat)))) (x8 + ((min (x8 : Int).toNat (x7.length - (x8 : Int).toNat)) : Nat)) _ h (.o2 R (.nil _))
    ·refine W.exit <| qV <| qV <| vB <| qq <| sr <| mv R R <| av R R <| qx <| qw (env' := [(4, _)]) (.one R (.nil _)) <| qq <| vq ?_
     cases h
     exact QR.r1 R R (.t R) ⟨_, R, R⟩
  ·refine qJ <| mv R R <| pk R 21 R (qN R R) <| mv R R ?_
   rcases bif_s h with ⟨hb150, h⟩ | ⟨hb150, h⟩
   ·refine sk R R R hb150 <| sk R R R hb150 <| pk R 23 R (vQ R hb150) <| qx ?_
    exact qw (.o2 R (.one R (.nil _))) (Kj105 () true h)
   ·refine wm R R R hb150 R R <| wq R R R hb150 (.s 24 R (.k .nil)) (qN R R).o <| p2 R 23 R 25 R (vj R hb150) <| qx ?_
    exact qw (.o2 R (.one R (.nil _))) (Kj105 () (decide (t102.2 > 9223372036854775807)) h)
theorem difference_fresh.con (k : Nat) (a0 : Int) (r : (List (List Int))) (h : difference_fresh k a0 = some r) : Con Tryz.prog 92 [] [iA a0] (RA (SlcA (kSl kInt) r)) := by
 unfold difference_fresh at h
 refine vJ (N := 24) Tryz.func92 R R R fun w0_ fg_ => sr <| ak R <| nx <| ak R <| nt <| qX <| qX ?_
 refine qJ <| mv R R ?_
 obtain ⟨c100, h⟩ := qK h
 refine pk R 6 R (vK R c100) <| mk_ R <| nt <| vx <| W.to (StTo.newNil 26 (kSl kInt)) <| W.to (StTo.as 3 R Imp.nilHd) ?_
 refine W.loop2 (Γ := Value) (fun (g0 : Value) (_ : (List (List Int))) (x8 : Int) => [(0, iA a0), (3, HdA g0), (7, iA (a0 + 1)), (8, iA x8)]) (fun (g0 : Value) (x3 : (List (List Int))) (_ : Int) => [SlE 26 g0 (kSl kInt) x3]) h (.slice none 0 0) (.o4 R (.nil _)) R (fun rec0 K0 next0 g0 x3 x8 h => ?_)
 unfold difference_fresh.b0 at h
 refine sr <| p2 R 8 R 7 R (qN R R) <| nt <| qX ?_
 refine qZ h R (fun hb124 h => ?_) (fun hb124 h => ?_)
 ·refine qB <| qq <| qX <| vx <| sr <| mv R R <| av R R <| nx <| WL.p R R R (.k .nil) (q_lit (kd := kInt) (ps := [(0, .const (.int .i64 1125899906842624))]) (xs := [.const (.int .i64 1125899906842624)]) («as» := [iA 1125899906842624]) (ys := [1125899906842624]) R R el26 R gr3 R R R (.cons (qW R) .nil)) ?_
  refine mv R R ?_
  obtain ⟨c125, h⟩ := qK h
  refine pk R 12 R (vK R c125) ?_
  obtain ⟨t126, ht126, h⟩ := vw h
  refine WL.w [] R (qj R) R R (.s 11 R (.s 13 R .nil)) (w_callI (f := 142) (xs := [.tmp 11, .tmp 13]) («as» := [SlcA kInt [1125899906842624], iA (a0 + 1)]) R ca142 (slices_Repeat_int.con k [1125899906842624] (a0 + 1) t126 ht126) R (.cons (Imp.id _) (.cons (Imp.id _) .nil))) ?_
  rintro _ _ ⟨v127, rfl, rfl⟩
  refine av R R <| nx <| mv R R <| mv R R ?_
  obtain ⟨c128, h⟩ := qK h
  refine WL.q (qj R) R R (.s 15 R (.s 16 R .nil)) (q_indexO R el26 (j := 0) R c128.1 c128.2) <| WL.w0 [0] R (qj R) R (.s 17 R (.k .nil)) (w_storeEl (kd := kInt) (z := 0) R sh3 (qW R) R R R c128.1 c128.2 R R) ?_
  rintro _ _ ⟨rfl, rfl⟩
  refine qx <| qw (env' := [(5, _), (8, _), (7, _), (3, _), (0, _)]) (.o4 R (.one R (.nil _))) <| qq <| qJ <| mv R R <| mv R R <| WL.to (StTo.freeze [0] 19 R R) <| p1 R 19 R (q_lit (kd := (kSl kInt)) (ps := [(0, .tmp 19)]) (xs := [.tmp 19]) («as» := [SlcA kInt (t126.set (x8 : Int).toNat 0)]) (ys := [(t126.set (x8 : Int).toNat 0)]) R R el149 R gr26 R R R (.cons (qW R) .nil)) ?_
  obtain ⟨c129, h⟩ := qK h
  refine WL.w [0] R (qj R) R R (.s 18 R (.s 20 R .nil)) (w_append (kd := (kSl kInt)) R el149 R gr26 c129) ?_
  rintro _ _ ⟨v130, rfl, rfl⟩
  refine av R R <| qx <| vZ <| qq <| qJ ?_
  obtain ⟨c131, h⟩ := qK h
  refine pk R 8 R (vK R c131) <| mv R R <| qx ?_
  exact next0 v130 (x3 ++ [(t126.set (x8 : Int).toNat 0)]) (x8 + 1) _ h (.o4 R (.nil _))
 ·refine W.exit <| qV <| qV <| vB <| qq <| sr <| mv R R <| av R R <| nt <| vq ?_
  cases h
  exact vW R R (.t R) (.slc 0 R)
theorem difference_closed.con (k : Nat) (a0 : (List (List Int))) (r : Bool) (h : difference_closed k a0 = some r) : Con Tryz.prog 93 [] [SlcA (kSl kInt) a0] (RA (bA r)) := by
 unfold difference_closed at h
 refine vJ (N := 18) Tryz.func93 R R R fun w0_ fg_ => sr <| ak R <| nt <| qX <| sr <| mv R R <| p1 R 4 R (vN R elS149) <| mk_ R <| qx ?_
 refine qq <| vx ?_
 refine W.loop1 (Γ := Unit) (fun (_ : Unit) (x6 : Int) => [(0, SlcA (kSl kInt) a0), (5, iA (a0.length : Int)), (6, iA x6)]) (fun (_ : Unit) (_ : Int) => []) h () (.o2 R (.one R (.nil _))) R (fun rec0 K0 next0 _ x6 h => ?_)
 unfold difference_closed.b0 at h
 refine sr <| p2 R 6 R 5 R (qN R R) <| nt <| qX ?_
 refine qZ h R (fun hb110 h => ?_) (fun hb110 h => ?_)
 ·refine qB <| qq <| qX <| vx <| sr <| mv R R <| av R R <| nx <| mv R R ?_
  refine mv R R ?_
  obtain ⟨c111, h⟩ := qK h
  refine p2 R 9 R 10 R (vX R el149 R c111.1 c111.2) <| ld R R sh26 <| mv R R ?_
  obtain ⟨c112, h⟩ := qK h
  refine p2 R 12 R 13 R (vX R el26 R c112.1 c112.2) <| ld R R sh3 <| pk R 15 R (qN R R) <| qx <| qw (env' := [(16, _), (6, _), (5, _), (0, _)]) (.o4 R (.nil _)) <| qq ?_
  refine qZ h R (fun hb113 h => ?_) (fun hb113 h => ?_)
  ·refine sr <| ak R <| nt <| vq <| vz <| qQ <| qQ <| vz <| qQ ?_
   cases h
   exact vW R R (.t R) (.id _)
  ·refine qB <| vZ <| qq <| qJ ?_
   obtain ⟨c114, h⟩ := qK h
   refine pk R 6 R (vK R c114) <| mv R R <| qx ?_
   exact next0 () (x6 + 1) _ h (.o2 R (.one R (.nil _)))
 ·refine W.exit <| qV <| qV <| vB <| qq <| sr <| ak R <| nt <| vq ?_
  cases h
  exact vW R R (.t R) (.id _)
theorem difference_longer.con (k : Nat) (a0 : (List (List Int))) (a1 : (List Arc)) (r : (List (List Int))) (h : difference_longer k a0 a1 = some r) : Con Tryz.prog 94 [] [SlcA (kSl kInt) a0, SlcA kArc a1] (RA (SlcA (kSl kInt) r)) := by
 unfold difference_longer at h
 refine vJ (N := 75) Tryz.func94 R R R fun w0_ fg_ => sr <| ak R <| nx <| mv R R <| p1 R 10 R (vN R elS149) ?_
 obtain ⟨c100, h⟩ := qK h
 refine pk R 11 R (q_subR R c100) <| av R R <| nx <| ak R <| nt <| qX <| sr <| mv R R ?_
 obtain ⟨c101, h⟩ := qK h
 refine pk R 13 R (vK R c101) <| mk_ R <| nt <| vx <| W.to (StTo.newNilT 26 3 kInt) <| W.to (StTo.as 6 R Imp.nilHd) ?_
 refine W.loop2 (Γ := (Value × (List Value))) (fun (g0 : (Value × (List Value))) (_ : (List (List Int))) (x15 : Int) => [(0, SlcA (kSl kInt) a0), (1, SlcA kArc a1), (5, iA ((a0.length : Int) - 1)), (6, HdA g0.1), (14, iA (((a0.length : Int) - 1) + 1)), (15, iA x15)]) (fun (g0 : (Value × (List Value))) (x6 : (List (List Int))) (_ : Int) => [TbE 26 3 g0.1 kInt g0.2 x6]) h ((.slice none 0 0), []) (.o4 R (.o2 R (.nil _))) R (fun rec0 K0 next0 g0 x6 x15 h => ?_)
 unfold difference_longer.b0 at h
 refine sr <| p2 R 15 R 14 R (qN R R) <| nt <| qX ?_
 refine qZ h R (fun hb606 h => ?_) (fun hb606 h => ?_)
 ·refine qB <| qq <| qX <| vx <| qJ <| mv R R <| WL.p R R R (.k .nil) (q_lit (kd := kInt) (ps := [(0, .const (.int .i64 1125899906842624))]) (xs := [.const (.int .i64 1125899906842624)]) («as» := [iA 1125899906842624]) (ys := [1125899906842624]) R R el26 R gr3 R R R (.cons (qW R) .nil)) <| mv R R ?_
  obtain ⟨c607, h⟩ := qK h
  refine pk R 19 R (vK R c607) ?_
  obtain ⟨t608, ht608, h⟩ := vw h
  refine WL.w [] R (qj R) R R (.s 18 R (.s 20 R .nil)) (w_callI (f := 142) (xs := [.tmp 18, .tmp 20]) («as» := [SlcA kInt [1125899906842624], iA (((a0.length : Int) - 1) + 1)]) R ca142 (slices_Repeat_int.con k [1125899906842624] (((a0.length : Int) - 1) + 1) t608 ht608) R (.cons (Imp.id _) (.cons (Imp.id _) .nil))) ?_
  rintro _ _ ⟨v609, rfl, rfl⟩
  refine p1 R 21 R (q_lit (kd := kVal) (ps := [(0, .tmp 21)]) (xs := [.tmp 21]) («as» := [HdA v609]) (ys := [v609]) R R el149 R gr26 R R R (.cons (qW R) .nil)) ?_
  obtain ⟨c610, h⟩ := qK h
  refine WL.w [1, 0] R (qj R) R R (.s 17 R (.s 22 R .nil)) (w_appendT (kd := kInt) R el149 gr26 c610) ?_
  rintro _ _ ⟨g611, rfl, rfl⟩
  refine av R R <| qx <| vZ <| qq <| qJ ?_
  obtain ⟨c613, h⟩ := qK h
  refine pk R 15 R (vK R c613) <| mv R R <| qx ?_
  exact next0 (g611.1, g611.2) (x6 ++ [t608]) (x15 + 1) _ h (.o4 R (.o2 R (.nil _)))
 ·refine W.exit <| qV <| qV <| vB <| qq <| qX <| sr <| mv R R <| p1 R 25 R (vN R elS146) <| mk_ R <| nt ?_
  refine vx ?_
  refine W.loop2 (Γ := Unit) (fun (_ : Unit) (_ : (List (List Int))) (x27 : Int) => [(0, SlcA (kSl kInt) a0), (5, iA ((a0.length : Int) - 1)), (6, HdA g0.1), (25, SlcA kArc a1), (26, iA (a1.length : Int)), (27, iA x27)]) (fun (_ : Unit) (x6' : (List (List Int))) (_ : Int) => [TbE 26 3 g0.1 kInt g0.2 x6']) h () (.o4 R (.o2 R (.nil _))) R (fun rec1 K1 next1 _ x6' x27 h => ?_)
  unfold difference_longer.b1 at h
  refine sr <| p2 R 27 R 26 R (qN R R) <| nt <| qX ?_
  refine qZ h R (fun hb922 h => ?_) (fun hb922 h => ?_)
  ·refine qB <| qq <| qX <| vx <| sr ?_
   obtain ⟨c923, h⟩ := qK h
   refine p2 R 25 R 27 R (vX R el146 R c923.1 c923.2) <| lS R R sh155 R R <| WL.w [] R (qj R) R R .nil (w_alloc R z155 (l := [iA 0, iA 0, iA 0, iA 0, iA 0]) R) ?_
   rintro _ _ ⟨b924, rfl, rfl⟩
   refine WL.w0 [0] R (qj R) R (.s 8 R (.s 30 R .nil)) (w_store (L := [iA ((rd a1 x27).fuse.fTest), iA ((rd a1 x27).fuse.fSign), iA ((rd a1 x27).ffrom), iA ((rd a1 x27).fto), iA ((rd a1 x27).fmost)]) R sh155 (qy _) R R (leB R) R) ?_
   rintro _ _ ⟨rfl, rfl⟩
   refine qx <| QN.to (StTo.still [0] 8 R R) <| qq <| sr <| mv R R ?_
   obtain ⟨c925, h⟩ := qK h
   refine pk R 31 R (vK R c925) <| mk_ R <| nt <| vx ?_
   refine W.loop2 (Γ := Unit) (fun (_ : Unit) (_ : (List (List Int))) (x33 : Int) => [(0, SlcA (kSl kInt) a0), (5, iA ((a0.length : Int) - 1)), (6, HdA g0.1), (25, SlcA kArc a1), (26, iA (a1.length : Int)), (27, iA x27), (8, PtrA [iA ((rd a1 x27).fuse.fTest), iA ((rd a1 x27).fuse.fSign), iA ((rd a1 x27).ffrom), iA ((rd a1 x27).fto), iA ((rd a1 x27).fmost)]), (32, iA (((a0.length : Int) - 1) + 1)), (33, iA x33)]) (fun (_ : Unit) (x6'' : (List (List Int))) (_ : Int) => [TbE 26 3 g0.1 kInt g0.2 x6'']) h () (.o4 R (.o4 R (.one R (.nil _)))) R (fun rec2 K2 next2 _ x6'' x33 h => ?_)
   unfold difference_longer.b2 at h
   refine sr <| p2 R 33 R 32 R (qN R R) <| nt <| qX ?_
   refine qZ h R (fun hb1026 h => ?_) (fun hb1026 h => ?_)
   ·refine qB <| qq <| qX <| vx <| sr <| mv R R <| av R R <| nx <| mv R R ?_
    refine fd R R fo155_2 R <| ld R R sh3 ?_
    obtain ⟨c1027, h⟩ := qK h
    refine p2 R 36 R 38 R (vX R el149 R c1027.1 c1027.2) <| ld R R sh26 <| mv R R ?_
    obtain ⟨c1028, h⟩ := qK h
    refine p2 R 40 R 41 R (vX R el26 R c1028.1 c1028.2) <| ld R R sh3 <| pk R 43 R (qN R R) <| qx <| qw (env' := [(44, _), (9, _), (33, _), (32, _), (8, _), (27, _), (26, _), (25, _), (6, _), (5, _), (0, _)]) (.o4 R (.o4 R (.o2 R (.one R (.nil _))))) <| qq ?_
    refine qZ h R (fun hb1051 h => ?_) (fun hb1051 h => ?_)
    ·refine W.drawK [(0, false), (1, false), (2, false), (3, true), (4, true), (5, false), (6, false), (7, false), (8, false), (9, true), (10, true), (11, false), (12, true), (13, true), (14, false), (15, false), (16, false), (17, false), (18, false), (19, false), (20, false), (21, false), (22, false), (23, false), (24, false), (25, false), (26, true)] [27] (bm [0, 0, 2, 7, 15, 0, 0, 0, 128, 448, 960, 0, 4032, 8128, 0, 16384, 0, 0, 131072, 458752, 983040, 0, 4128768, 8323072, 16760832, 33554368, 67108863, 134217727]) mx (by kernel_rfl) <| dm R R R <| df R R R fo155_1 R <| dl R R R sh3 ?_
     obtain ⟨c1066, h⟩ := qK h
     refine qz R R (.o R (.s 45 R (.s 47 R .nil)) R (q_indexT R el149 (j := 0) R c1066.1 c1066.2)) <| qz R R (.o R (.s 48 R .nil) R (q_loadT R sh26 (j := 0) R c1066.1 c1066.2)) <| dm R R R <| dm R R R <| df R R R fo155_1 R <| dl R R R sh3 ?_
     obtain ⟨c1067, h⟩ := qK h
     refine qz R R (.o R (.s 51 R (.s 53 R .nil)) R (q_indexT R el149 (j := 0) R c1067.1 c1067.2)) <| qz R R (.o R (.s 54 R .nil) R (q_loadT R sh26 (j := 0) R c1067.1 c1067.2)) <| dm R R R ?_
     obtain ⟨c1068, h⟩ := qK h
     refine qz R R (.o R (.s 55 R (.s 56 R .nil)) R (q_indexR R el26 (j := 0) R c1067.1 c1067.2 c1068.1 c1068.2)) <| qz R R (.o R (.s 57 R .nil) R (q_loadR R sh3 (j := 0) R R c1067.1 c1067.2 c1068.1 c1068.2 R)) <| df R R R fo155_3 R <| dl R R R sh3 <| dm R R R <| df R R R fo155_2 R <| dl R R R sh3 ?_
     obtain ⟨c1069, h⟩ := qK h
     refine qz R R (.p R (.s 61 R (.s 63 R .nil)) R (vX R el149 R c1069.1 c1069.2)) <| dl R R R sh26 <| dm R R R ?_
     obtain ⟨c1070, h⟩ := qK h
     refine qz R R (.p R (.s 65 R (.s 66 R .nil)) R (vX R el26 R c1070.1 c1070.2)) <| dl R R R sh3 ?_
     obtain ⟨c1071, h⟩ := qK h
     refine qz R R (.p R (.s 60 R (.s 68 R .nil)) R (vK R c1071)) <| qz R R (.p R (.s 58 R (.s 69 R .nil)) R (q_min R)) ?_
     obtain ⟨c1072, h⟩ := qK h
     refine qz R R (.o R (.s 49 R (.s 50 R .nil)) R (q_indexR R el26 (j := 0) R c1066.1 c1066.2 c1072.1 c1072.2)) <| DK.nil <| CSteps.w0 [0] R R R (.s 71 R (.s 70 R .nil)) R (w_storeR (kd := kInt) (z := (minI (rd (rd x6'' ((rd a1 x27).ffrom)) x33) ((rd a1 x27).fmost + (rd (rd a0 ((rd a1 x27).fto)) x33)))) R sh3 (qW R) R R R c1066.1 c1066.2 c1072.1 c1072.2 R R) ?_
     rintro _ _ ⟨rfl, rfl⟩
     refine CSteps.nil <| vZ <| qw (env' := [(33, _), (32, _), (8, _), (27, _), (26, _), (25, _), (6, _), (5, _), (0, _)]) (.o4 R (.o4 R (.one R (.nil _)))) <| qq <| qJ ?_
     obtain ⟨c1073, h⟩ := qK h
     refine pk R 33 R (vK R c1073) <| mv R R <| qx ?_
     exact next2 () (x6''.set ((rd a1 x27).ffrom : Int).toNat ((rd x6'' ((rd a1 x27).ffrom)).set (x33 : Int).toNat (minI (rd (rd x6'' ((rd a1 x27).ffrom)) x33) ((rd a1 x27).fmost + (rd (rd a0 ((rd a1 x27).fto)) x33))))) (x33 + 1) _ h (.o4 R (.o4 R (.one R (.nil _))))
    ·refine qB <| vZ <| qq <| qJ ?_
     obtain ⟨c1074, h⟩ := qK h
     refine pk R 33 R (vK R c1074) <| mv R R <| qx ?_
     exact next2 () x6'' (x33 + 1) _ h (.o4 R (.o4 R (.one R (.nil _))))
   ·refine W.exit <| qV <| qV <| vB <| vZ <| qq <| qJ ?_
    obtain ⟨c1075, h⟩ := qK h
    refine pk R 27 R (vK R c1075) <| mv R R <| qx ?_
    exact next1 () x6'' (x27 + 1) _ h (.o4 R (.o2 R (.nil _)))
  ·refine W.exit <| qV <| qV <| vB <| qq <| sr <| mv R R <| av R R <| qx <| qw (env' := [(4, _)]) (.one R (.nil _)) <| qq <| vq ?_
   cases h
   exact vW R R (.t R) (.tab 0 R)
theorem difference_Refute.con (k : Nat) (a0 : Int) (a1 : (List Test)) (r : ((List Use) × Int)) (h : difference_Refute k a0 a1 = some r) : Con Tryz.prog 44 [] [iA a0, SlcA kTest a1] (RA (TupA [SlcA kUse r.1, iA r.2])) := by
 unfold difference_Refute at h
 refine vJ (N := 115) Tryz.func44 R R R fun w0_ fg_ => sr <| ak R <| ak R <| nt <| qX <| sr <| mv R R <| mv R R ?_
 obtain ⟨t100, ht100, h⟩ := vw h
 refine p2 R 20 R 21 R (vy (f := 56) (A := iA t100) (xs := [.tmp 20, .tmp 21]) («as» := [iA a0, SlcA kTest a1]) R ca56 (difference_Valid.con k a0 a1 t100 ht100) R) <| av R R <| nx <| mv R R <| pk R 23 R (qN R R) <| nt ?_
 refine qZ h R (fun hb101 h => ?_) (fun hb101 h => ?_)
 ·refine sr <| mv R R <| ak R <| av R R <| qx <| qw (env' := [(5, _), (4, _)]) (.o2 R (.nil _)) <| qq <| vq <| qQ ?_
  cases h
  exact QR.f2 R R (.t R) (.t R) (.imp (Imp.tup (.cons (Imp.nil kUse) (.cons (Imp.id _) .nil))))
 ·refine qB <| qw (env' := [(1, _), (0, _)]) (.o2 R (.nil _)) <| qq <| sr <| mv R R ?_
  obtain ⟨t102, ht102, h⟩ := vw h
  refine p1 R 26 R (vy (f := 90) (A := SlcA kArc t102) (xs := [.tmp 26]) («as» := [SlcA kTest a1]) R ca90 (difference_arcs.con k a1 t102 ht102) R) <| av R R <| nt <| qX <| sr <| mv R R <| mv R R ?_
  obtain ⟨t103, ht103, h⟩ := vw h
  refine p2 R 29 R 30 R (vy (f := 91) (A := TupA [SlcA kInt t103.1, bA t103.2]) (xs := [.tmp 29, .tmp 30]) («as» := [iA a0, SlcA kArc t102]) R ca91 (difference_distances.con k a0 t102 t103 ht103) R) <| mv R R <| p1 R 28 R (vV R R) <| p1 R 28 R (vV R R) <| av R R <| av R R <| qx <| qw (env' := [(9, _), (7, _), (0, _)]) (.o2 R (.one R (.nil _))) <| qq <| sr <| mv R R <| qx ?_
  refine qq ?_
  refine qZ h R (fun hb104 h => ?_) (fun hb104 h => ?_)
  ·refine sr <| ak R <| ak R <| nt <| vq <| qQ ?_
   cases h
   exact QR.f2 R R (.t R) (.t R) (.imp (Imp.tup (.cons (Imp.nil kUse) (.cons (Imp.id _) .nil))))
  ·refine qB <| qq <| sr <| mv R R ?_
   obtain ⟨t105, ht105, h⟩ := vw h
   refine p1 R 35 R (vy (f := 92) (A := SlcA (kSl kInt) t105) (xs := [.tmp 35]) («as» := [iA a0]) R ca92 (difference_fresh.con k a0 t105 ht105) R) <| WL.w [] R (qj R) R R (.s 36 R .nil) (w_lit (kd := (kSl (kSl kInt))) (ps := [(0, .tmp 36)]) (xs := [.tmp 36]) («as» := [SlcA (kSl kInt) t105]) (ys := [t105]) R R el151 R gr149 R R R (.cons (qW R) .nil)) ?_
   rintro _ _ ⟨v106, rfl, rfl⟩
   refine av R R <| nt <| qX <| vx ?_
   refine W.loop1 (Γ := Value) (fun (g0 : Value) (_ : (List (List (List Int)))) => [(7, SlcA kArc t102), (10, HdA g0)]) (fun (g0 : Value) (x10 : (List (List (List Int)))) => [SlE 149 g0 (kSl (kSl kInt)) x10]) h v106 (.o2 R (.nil _)) R (fun rec0 K0 next0 g0 x10 h => ?_)
   unfold difference_Refute.b0 at h
   refine qX <| sr <| mv R R <| mv R R <| WL.q (qj R) R R (.s 39 R .nil) (q_lenO R elS151 (i := 0) R) ?_
   obtain ⟨c2569, h⟩ := qK h
   refine pk R 40 R (q_subR R c2569) ?_
   obtain ⟨c2570, h⟩ := qK h
   refine WL.q (qj R) R R (.s 38 R (.s 41 R .nil)) (q_indexO R el151 (j := 0) R c2570.1 c2570.2) <| WL.q (qj R) R R (.s 42 R .nil) (q_loadEl R sh149 (j := 0) R R c2570.1 c2570.2 R) ?_
   obtain ⟨t2571, ht2571, h⟩ := vw h
   refine p1 R 43 R (vy (f := 93) (A := bA t2571) (xs := [.tmp 43]) («as» := [SlcA (kSl kInt) (rd x10 ((x10.length : Int) - 1))]) R ca93 (difference_closed.con k (rd x10 ((x10.length : Int) - 1)) t2571 ht2571) R) <| p1 R 44 R (q_not R) <| qx <| qw (env' := [(45, _), (10, _), (7, _)]) (.o2 R (.one R (.nil _))) <| qq ?_
   refine qZ h R (fun hb2572 h => ?_) (fun hb2572 h => ?_)
   ·refine qB <| qq <| vx <| qJ <| mv R R <| mv R R <| mv R R <| WL.q (qj R) R R (.s 48 R .nil) (q_lenO R elS151 (i := 0) R) ?_
    obtain ⟨c2573, h⟩ := qK h
    refine pk R 49 R (q_subR R c2573) ?_
    obtain ⟨c2574, h⟩ := qK h
    refine WL.q (qj R) R R (.s 47 R (.s 50 R .nil)) (q_indexO R el151 (j := 0) R c2574.1 c2574.2) <| WL.q (qj R) R R (.s 51 R .nil) (q_loadEl R sh149 (j := 0) R R c2574.1 c2574.2 R) <| mv R R ?_
    obtain ⟨t2575, ht2575, h⟩ := vw h
    refine p2 R 52 R 53 R (vy (f := 94) (A := SlcA (kSl kInt) t2575) (xs := [.tmp 52, .tmp 53]) («as» := [SlcA (kSl kInt) (rd x10 ((x10.length : Int) - 1)), SlcA kArc t102]) R ca94 (difference_longer.con k (rd x10 ((x10.length : Int) - 1)) t102 t2575 ht2575) R) <| p1 R 54 R (q_lit (kd := (kSl (kSl kInt))) (ps := [(0, .tmp 54)]) (xs := [.tmp 54]) («as» := [SlcA (kSl kInt) t2575]) (ys := [t2575]) R R el151 R gr149 R R R (.cons (qW R) .nil)) ?_
    obtain ⟨c2576, h⟩ := qK h
    refine WL.w [0] R (qj R) R R (.s 46 R (.s 55 R .nil)) (w_append (kd := (kSl (kSl kInt))) R el151 R gr149 c2576) ?_
    rintro _ _ ⟨v2577, rfl, rfl⟩
    refine av R R <| qx <| vZ ?_
    exact next0 v2577 (x10 ++ [t2575]) _ h (.o2 R (.nil _))
   ·refine W.exit <| qV <| qV <| vB <| qq <| sr <| ak R <| nx <| ak R ?_
    refine ak R <| ak R <| nt <| qX <| sr <| mv R R <| WL.q (qj R) R R (.s 57 R .nil) (q_lenO R elS151 (i := 0) R) ?_
    obtain ⟨c2578, h⟩ := qK h
    refine pk R 58 R (q_subR R c2578) <| av R R <| nt <| vx <| W.to (StTo.newNil 52 kUse) <| W.to (StTo.as 11 R Imp.nilHd) <| W.order [1, 0] R ?_
    refine W.loop5 (Γ := Value) (fun (g1 : Value) (_ : (List Use)) (x12 : Int) (x13 : Int) (x14 : Int) (x15 : Int) => [(7, SlcA kArc t102), (10, HdA g0), (11, HdA g1), (12, iA x12), (13, iA x13), (14, iA x14), (15, iA x15)]) (fun (g1 : Value) (x11 : (List Use)) (_ : Int) (_ : Int) (_ : Int) (_ : Int) => [SlE 149 g0 (kSl (kSl kInt)) x10, SlE 52 g1 kUse x11]) h (.slice none 0 0) (.o4 R (.o2 R (.one R (.nil _)))) R (fun rec1 K1 next1 g1 x11 x12 x13 x14 x15 h => ?_)
    unfold difference_Refute.b1 at h
    refine qX <| sr <| mv R R <| pk R 60 R (qN R R) <| nt ?_
    refine qZ h R (fun hb3396 h => ?_) (fun hb3396 h => ?_)
    ·refine qB <| qq <| qX <| vx <| sr <| mv R R <| p1 R 64 R (vN R elS146) <| mk_ R <| nt ?_
     refine W.jn4 (Γ := Value) (fun (g3595 : Value) (_ : (List Use)) (x12' : Int) (x13' : Int) (x14' : Int) => [(7, SlcA kArc t102), (10, HdA g0), (15, iA x15), (11, HdA g3595), (12, iA x12'), (13, iA x13'), (14, iA x14')]) (fun (g3595 : Value) (x11' : (List Use)) (_ : Int) (_ : Int) (_ : Int) => [SlE 149 g0 (kSl (kSl kInt)) x10, SlE 52 g3595 kUse x11']) h (fun g3595 x11' x12' x13' x14' h => ?_) (fun j3598 Kj3598 h => ?_)
     ·refine vZ <| qq <| qJ <| mv R R ?_
      obtain ⟨c3599, h⟩ := qK h
      refine pk R 62 R (q_subR R c3599) <| av R R <| qx ?_
      exact next1 g3595 x11' x12' x13' x14' (x15 - 1) _ h (.o4 R (.o2 R (.one R (.nil _))))
     ·refine vx ?_
      refine W.loop1 (Γ := Unit) (fun (_ : Unit) (x66 : Int) => [(7, SlcA kArc t102), (10, HdA g0), (11, HdA g1), (12, iA x12), (13, iA x13), (14, iA x14), (15, iA x15), (64, SlcA kArc t102), (65, iA (t102.length : Int)), (66, iA x66)]) (fun (_ : Unit) (_ : Int) => [SlE 149 g0 (kSl (kSl kInt)) x10, SlE 52 g1 kUse x11]) h () (.o4 R (.o4 R (.o2 R (.nil _)))) R (fun rec2 K2 next2 _ x66 h => ?_)
      unfold difference_Refute.b2 at h
      refine sr <| p2 R 66 R 65 R (qN R R) <| nt <| qX ?_
      refine qZ h R (fun hb3732 h => ?_) (fun hb3732 h => ?_)
      ·refine qB <| qq <| qX <| vx <| sr ?_
       obtain ⟨c3764, h⟩ := qK h
       refine p2 R 64 R 66 R (vX R el146 R c3764.1 c3764.2) <| lS R R sh155 R R <| WL.w [] R (qj R) R R .nil (w_alloc R z155 (l := [iA 0, iA 0, iA 0, iA 0, iA 0]) R) ?_
       rintro _ _ ⟨b3765, rfl, rfl⟩
       refine WL.w0 [0] R (qj R) R (.s 17 R (.s 69 R .nil)) (w_store (L := [iA ((rd t102 x66).fuse.fTest), iA ((rd t102 x66).fuse.fSign), iA ((rd t102 x66).ffrom), iA ((rd t102 x66).fto), iA ((rd t102 x66).fmost)]) R sh155 (qy _) R R (leB R) R) ?_
       rintro _ _ ⟨rfl, rfl⟩
       refine qx <| QN.to (StTo.still [0] 17 R R) <| qq <| sr <| mv R R <| av R R <| nt <| qX <| sr <| mv R R ?_
       refine pk R 71 R (qN R R) <| nt ?_
       refine W.jn1 (Γ := Unit) (fun (_ : Unit) (x18 : Int) => [(7, SlcA kArc t102), (10, HdA g0), (11, HdA g1), (12, iA x12), (13, iA x13), (14, iA x14), (15, iA x15), (64, SlcA kArc t102), (65, iA (t102.length : Int)), (66, iA x66), (17, PtrA [iA ((rd t102 x66).fuse.fTest), iA ((rd t102 x66).fuse.fSign), iA ((rd t102 x66).ffrom), iA ((rd t102 x66).fto), iA ((rd t102 x66).fmost)]), (18, iA x18)]) (fun (_ : Unit) (_ : Int) => [SlE 149 g0 (kSl (kSl kInt)) x10, SlE 52 g1 kUse x11]) h (fun _ x18 h => ?_) (fun j3770 Kj3770 h => ?_)
       ·refine qq <| qX <| W.drawK [(0, false), (1, false), (2, true), (3, true), (4, false), (5, false), (6, false), (7, false), (8, false), (9, false), (10, false), (11, false)] [] (bm [0, 0, 3, 7, 0, 16, 63, 127, 0, 511, 1023, 2047]) mx (by kernel_rfl) <| dm R R R <| dm R R R ?_
        obtain ⟨c3777, h⟩ := qK h
        refine qz R R (.o R (.s 79 R (.s 80 R .nil)) R (q_indexO R el151 (j := 0) R c3777.1 c3777.2)) <| qz R R (.o R (.s 81 R .nil) R (q_loadEl R sh149 (j := 0) R R c3777.1 c3777.2 R)) <| df R R R fo155_2 R <| dl R R R sh3 ?_
        obtain ⟨c3778, h⟩ := qK h
        refine qz R R (.p R (.s 82 R (.s 84 R .nil)) R (vX R el149 R c3778.1 c3778.2)) <| dl R R R sh26 <| dm R R R ?_
        obtain ⟨c3779, h⟩ := qK h
        refine qz R R (.p R (.s 86 R (.s 87 R .nil)) R (vX R el26 R c3779.1 c3779.2)) <| dl R R R sh3 <| qz R R (.p R (.s 89 R .nil) R (q_assign R)) <| DK.nil <| CSteps.nil <| qw (env' := [(19, _), (18, _), (17, _), (66, _), (65, _), (64, _), (15, _), (14, _), (13, _), (12, _), (11, _), (10, _), (7, _)]) (.o4 R (.o4 R (.o4 R (.one R (.nil _))))) <| qq <| qX ?_
        refine W.jn1 (Γ := Unit) (fun (_ : Unit) (x100 : Bool) => [(7, SlcA kArc t102), (10, HdA g0), (11, HdA g1), (12, iA x12), (13, iA x13), (14, iA x14), (15, iA x15), (64, SlcA kArc t102), (65, iA (t102.length : Int)), (66, iA x66), (17, PtrA [iA ((rd t102 x66).fuse.fTest), iA ((rd t102 x66).fuse.fSign), iA ((rd t102 x66).ffrom), iA ((rd t102 x66).fto), iA ((rd t102 x66).fmost)]), (18, iA x18), (100, bA x100)]) (fun (_ : Unit) (_ : Bool) => [SlE 149 g0 (kSl (kSl kInt)) x10, SlE 52 g1 kUse x11]) h (fun _ x100 h => ?_) (fun j3784 Kj3784 h => ?_)
        ·refine qq ?_
         refine qZ h R (fun hb3785 h => ?_) (fun hb3785 h => ?_)
         ·refine sr <| mv R R <| fd R R fo155_0 R <| lS R R sh52 R R <| p1 R 103 R (q_lit (kd := kUse) (ps := [(0, .tmp 103)]) (xs := [.tmp 103]) («as» := [AggA [iA ((rd t102 x66).fuse.fTest), iA ((rd t102 x66).fuse.fSign)]]) (ys := [(rd t102 x66).fuse]) R R el45 R gr52 R R R (.cons (qy _) .nil)) ?_
          obtain ⟨c3786, h⟩ := qK h
          refine WL.w [1] R (qj R) R R (.s 101 R (.s 104 R .nil)) (w_append (kd := kUse) R el45 R gr52 c3786) ?_
          rintro _ _ ⟨v3787, rfl, rfl⟩
          refine av R R <| qx <| qw (env' := [(11, _), (18, _), (17, _), (15, _), (14, _), (10, _), (7, _)]) (.o4 R (.o2 R (.one R (.nil _)))) <| qq <| qX <| W.drawK [(0, false), (1, false), (2, false), (3, false), (4, false), (5, false), (6, false), (7, false), (8, false), (9, false)] [] (bm [0, 0, 2, 0, 0, 16, 56, 1, 135, 511]) mx (by kernel_rfl) <| dm R R R <| df R R R fo155_2 R <| dl R R R sh3 <| dm R R R <| df R R R fo155_3 R <| dl R R R sh3 ?_
          obtain ⟨c3790, h⟩ := qK h
          refine qz R R (.p R (.s 109 R (.s 111 R .nil)) R (vK R c3790)) <| qz R R (.p R (.s 106 R .nil) R (q_assign R)) <| qz R R (.p R (.s 108 R .nil) R (q_assign R)) <| qz R R (.p R (.s 112 R .nil) R (q_assign R)) <| DK.nil <| CSteps.nil <| qw (env' := [(14, _), (13, _), (12, _), (11, _), (15, _), (10, _), (7, _)]) (.o4 R (.o2 R (.one R (.nil _)))) <| qq <| W.exit <| QX.there R <| qV <| qV <| vB ?_
          refine QN.order [1, 0] R ?_
          exact qw (.o4 R (.o2 R (.one R (.nil _)))) (Kj3598 v3787 (x11 ++ [(rd t102 x66).fuse]) x18 ((rd t102 x66).fto) (x14 + (rd t102 x66).fmost) h)
         ·refine qB <| vZ <| qq <| qJ ?_
          obtain ⟨c3791, h⟩ := qK h
          refine pk R 66 R (vK R c3791) <| mv R R <| qx ?_
          exact next2 () (x66 + 1) _ h (.o4 R (.o4 R (.o2 R (.nil _))))
        ·refine qJ <| mv R R <| pk R 90 R (qN R R) <| mv R R ?_
         rcases bif_s h with ⟨hb3792, h⟩ | ⟨hb3792, h⟩
         ·refine wm R R R hb3792 R R <| wf R R R hb3792 R R fo155_3 R <| wl R R R hb3792 R R sh3 ?_
          obtain ⟨c3793, h⟩ := qK h
          refine wq R R R hb3792 (.s 93 R (.s 95 R .nil)) (vK R c3793).o <| wm R R R hb3792 R R ?_
          obtain ⟨c3794, h⟩ := qK h
          refine wq R R R hb3792 (.s 96 R (.s 97 R .nil)) (vK R c3794).o <| wq R R R hb3792 (.s 98 R (.k .nil)) (qN R R).o <| p2 R 92 R 99 R (vQ R hb3792) <| qx ?_
          exact qw (.o4 R (.o4 R (.o4 R (.one R (.nil _))))) (Kj3784 () (decide (((x14 + (rd t102 x66).fmost) + (rd (rd (rd x10 x15) ((rd t102 x66).fto)) x18)) < 0)) h)
         ·refine sk R R R hb3792 <| sk R R R hb3792 <| sk R R R hb3792 <| sk R R R hb3792 <| sk R R R hb3792 <| sk R R R hb3792 <| sk R R R hb3792 <| pk R 92 R (vj R hb3792) <| qx ?_
          exact qw (.o4 R (.o4 R (.o4 R (.one R (.nil _))))) (Kj3784 () false h)
       ·refine qZ h R (fun hb3795 h => ?_) (fun hb3795 h => ?_)
        ·refine qJ <| fd R R fo155_1 R <| ld R R sh3 <| av R R <| qx ?_
         exact qw (.o4 R (.o4 R (.o4 R (.nil _)))) (Kj3770 () ((rd t102 x66).ffrom) h)
        ·refine sr <| fd R R fo155_1 R <| ld R R sh3 <| mv R R <| p2 R 76 R 77 R (qN R R) <| qx <| qw (env' := [(78, _), (18, _), (17, _), (66, _), (65, _), (64, _), (15, _), (14, _), (13, _), (12, _), (11, _), (10, _), (7, _)]) (.o4 R (.o4 R (.o4 R (.one R (.nil _))))) <| qq ?_
         refine qZ h R (fun hb3796 h => ?_) (fun hb3796 h => ?_)
         ·refine W.exit <| qV <| vB <| qq <| qJ ?_
          obtain ⟨c3797, h⟩ := qK h
          refine pk R 66 R (vK R c3797) <| mv R R <| qx ?_
          exact next2 () (x66 + 1) _ h (.o4 R (.o4 R (.o2 R (.nil _))))
         ·refine qB ?_
          exact qw (.o4 R (.o4 R (.o4 R (.nil _)))) (Kj3770 () x12 h)
      ·refine W.exit <| qV <| qV <| vB ?_
       exact qw (.o4 R (.o2 R (.one R (.nil _)))) (Kj3598 g1 x11 x12 x13 x14 h)
    ·refine W.exit <| qV <| qV <| vB <| qw (env' := [(11, _)]) (.one R (.nil _)) <| qq <| sr <| mv R R <| av R R <| ak R <| nt ?_
     refine vq ?_
     cases h
     exact QR.f2 R R (.t R) (.t R) (.tup (.cons (.slc 1 R) (.cons (.id _) .nil)))
theorem attribute_Contradiction.con (k : Nat) (a0 : Types) (a1 : Pattern) (r : ((List Use) × Int)) (h : attribute_Contradiction k a0 a1 = some r) : Con Tryz.prog 15 [] [AggA [SlcA kNodeType a0.fNodes, SlcA kEdgeType a0.fEdges], AggA [SlcA kInt a1.fGraph.fNodes, SlcA kEdge a1.fGraph.fEdges, SlcA kSlot a1.fSlots, iA a1.fVars, SlcA kTest a1.fTests]] (RA (TupA [SlcA kUse r.1, iA r.2])) := by
 unfold attribute_Contradiction at h
 refine vJ (N := 21) Tryz.func15 R R R fun w0_ fg_ => sr <| p1 R 0 R (q_box R (qy _)) <| p1 R 1 R (q_box R (qy _)) <| ak R <| ak R <| nt <| qX <| sr <| lS R R sh35 R R ?_
 refine lS R R sh42 R R ?_
 obtain ⟨t100, ht100, h⟩ := vw h
 refine p2 R 7 R 8 R (vy (f := 18) (A := iA t100) (xs := [.tmp 7, .tmp 8]) («as» := [AggA [SlcA kNodeType a0.fNodes, SlcA kEdgeType a0.fEdges], AggA [SlcA kInt a1.fGraph.fNodes, SlcA kEdge a1.fGraph.fEdges, SlcA kSlot a1.fSlots, iA a1.fVars, SlcA kTest a1.fTests]]) R ca18 (attribute_Valid.con k a0 a1 t100 ht100) R) <| av R R <| qx <| qw (env' := [(6, _), (3, _), (2, _)]) (.o2 R (.one R (.nil _))) <| qq <| sr <| mv R R <| pk R 10 R (qN R R) <| nt ?_
 refine qZ h R (fun hb101 h => ?_) (fun hb101 h => ?_)
 ·refine sr <| mv R R <| ak R <| av R R <| nt <| vq <| qQ ?_
  cases h
  exact QR.f2 R R (.t R) (.t R) (.imp (Imp.tup (.cons (Imp.nil kUse) (.cons (Imp.id _) .nil))))
 ·refine qB <| qq <| qX <| W.drawK [(0, false), (1, false), (2, false), (3, false), (4, false), (5, false), (6, false), (7, false), (8, false), (9, false)] [] (bm [0, 1, 0, 0, 12, 31, 63, 63, 255, 511]) mx (by kernel_rfl) <| df R R R fo42_2 R <| dl R R R sh3 <| qz R R (.p R (.s 2 R .nil) R (q_loadS R sh35 (leB R) R)) <| qz R R (.p R (.s 3 R .nil) R (q_loadS R sh42 (leB R) R)) ?_
  obtain ⟨t106, ht106, h⟩ := vw h
  refine qz R R (.p R (.s 15 R (.s 16 R .nil)) R (vy (f := 45) (A := SlcA kTest t106) (xs := [.tmp 15, .tmp 16]) («as» := [AggA [SlcA kNodeType a0.fNodes, SlcA kEdgeType a0.fEdges], AggA [SlcA kInt a1.fGraph.fNodes, SlcA kEdge a1.fGraph.fEdges, SlcA kSlot a1.fSlots, iA a1.fVars, SlcA kTest a1.fTests]]) R ca45 (attribute_system.con k a0 a1 t106 ht106) R)) ?_
  obtain ⟨t107, ht107, h⟩ := vw h
  refine qz R R (.p R (.s 14 R (.s 17 R .nil)) R (vy (f := 44) (A := TupA [SlcA kUse t107.1, iA t107.2]) (xs := [.tmp 14, .tmp 17]) («as» := [iA a1.fVars, SlcA kTest t106]) R ca44 (difference_Refute.con k a1.fVars t106 t107 ht107) R)) <| qz R R (.p R (.s 18 R .nil) R (vV R R)) <| qz R R (.p R (.s 18 R .nil) R (vV R R)) <| qz R R (.p R (.s 19 R .nil) R (q_assign R)) <| qz R R (.p R (.s 20 R .nil) R (q_assign R)) <| DK.nil <| CSteps.nil <| qw (env' := [(5, _), (4, _)]) (.o2 R (.nil _)) <| qq <| vq ?_
  cases h
  exact QR.f2 R R (.t R) (.t R) (.id _)
theorem ref05_SameInts.con (k : Nat) (a0 : (List Int)) (a1 : (List Int)) (r : Bool) (h : ref05_SameInts k a0 a1 = some r) : Con Tryz.prog 116 [] [SlcA kInt a0, SlcA kInt a1] (RA (bA r)) := by
 unfold ref05_SameInts at h
 refine vJ (N := 26) Tryz.func116 R R R fun w0_ fg_ => sr <| ak R <| nt <| qX <| sr <| mv R R <| p1 R 6 R (vN R elS26) <| mv R R <| p1 R 8 R (vN R elS26) ?_
 refine p2 R 7 R 9 R (qN R R) <| nt ?_
 refine qZ h R (fun hb100 h => ?_) (fun hb100 h => ?_)
 ·refine sr <| ak R <| qx <| qw (env' := [(4, _)]) (.one R (.nil _)) <| qq <| vq <| qQ ?_
  cases h
  exact vW R R (.t R) (.id _)
 ·refine qB <| qq <| qX <| sr <| ak R <| nt <| vx ?_
  refine W.loop1 (Γ := Unit) (fun (_ : Unit) (x5 : Int) => [(0, SlcA kInt a0), (1, SlcA kInt a1), (5, iA x5)]) (fun (_ : Unit) (_ : Int) => []) h () (.o2 R (.one R (.nil _))) R (fun rec0 K0 next0 _ x5 h => ?_)
  unfold ref05_SameInts.b0 at h
  refine qX <| sr <| mv R R <| mv R R <| p1 R 12 R (vN R elS26) <| p2 R 11 R 13 R (qN R R) <| nt ?_
  refine qZ h R (fun hb119 h => ?_) (fun hb119 h => ?_)
  ·refine qB <| qq <| qX <| vx <| qX <| W.drawK [(0, false), (1, false), (2, false), (3, false), (4, false), (5, false), (6, false), (7, false), (8, false)] [] (bm [0, 0, 3, 7, 0, 0, 48, 112, 255]) mx (by kernel_rfl) <| dm R R R <| dm R R R ?_
   obtain ⟨c124, h⟩ := qK h
   refine qz R R (.p R (.s 17 R (.s 18 R .nil)) R (vX R el26 R c124.1 c124.2)) <| dl R R R sh3 <| dm R R R <| dm R R R ?_
   obtain ⟨c125, h⟩ := qK h
   refine qz R R (.p R (.s 21 R (.s 22 R .nil)) R (vX R el26 R c125.1 c125.2)) <| dl R R R sh3 <| qz R R (.p R (.s 20 R (.s 24 R .nil)) R (qN R R)) <| DK.nil <| CSteps.nil <| qw (env' := [(25, _), (5, _), (1, _), (0, _)]) (.o4 R (.nil _)) <| qq ?_
   refine qZ h R (fun hb126 h => ?_) (fun hb126 h => ?_)
   ·refine sr <| ak R <| nt <| vq <| vz <| qQ <| qQ <| vz <| qQ ?_
    cases h
    exact vW R R (.t R) (.id _)
   ·refine qB <| vZ <| qq <| qJ <| mv R R ?_
    obtain ⟨c127, h⟩ := qK h
    refine pk R 15 R (vK R c127) <| av R R <| qx ?_
    exact next0 () (x5 + 1) _ h (.o2 R (.one R (.nil _)))
  ·refine W.exit <| qV <| qV <| vB <| qw (env' := []) (.nil _) <| qq <| sr <| ak R <| nt <| vq ?_
   cases h
   exact vW R R (.t R) (.id _)
theorem ref21_SameMatch.con (k : Nat) (a0 : Match) (a1 : Match) (r : Bool) (h : ref21_SameMatch k a0 a1 = some r) : Con Tryz.prog 80 [] [AggA [SlcA kInt a0.fMorphism.fNodes, SlcA kInt a0.fMorphism.fEdges, SlcA kInt a0.fVars], AggA [SlcA kInt a1.fMorphism.fNodes, SlcA kInt a1.fMorphism.fEdges, SlcA kInt a1.fVars]] (RA (bA r)) := by
 unfold ref21_SameMatch at h
 refine vJ (N := 28) Tryz.func80 R R R fun w0_ fg_ => sr <| p1 R 0 R (q_box R (qy _)) <| p1 R 1 R (q_box R (qy _)) <| ak R <| nt <| qX ?_
 refine W.jn1 (Γ := Unit) (fun (_ : Unit) (x4 : Bool) => [(4, bA x4)]) (fun (_ : Unit) (_ : Bool) => []) h (fun _ x4 h => ?_) (fun j106 Kj106 h => ?_)
 ·refine qq <| vq ?_
  cases h
  exact vW R R (.t R) (.id _)
 ·refine qJ <| fd R R fo76_0 R <| fd R R fo64_0 R <| ld R R sh26 <| fd R R fo76_0 R <| fd R R fo64_0 R <| ld R R sh26 ?_
  obtain ⟨t107, ht107, h⟩ := vw h
  refine p2 R 7 R 10 R (vy (f := 116) (A := bA t107) (xs := [.tmp 7, .tmp 10]) («as» := [SlcA kInt a0.fMorphism.fNodes, SlcA kInt a1.fMorphism.fNodes]) R ca116 (ref05_SameInts.con k a0.fMorphism.fNodes a1.fMorphism.fNodes t107 ht107) R) <| mv R R ?_
  rcases bif_s h with ⟨hb108, h⟩ | ⟨hb108, h⟩
  ·refine wf R R R hb108 R R fo76_0 R <| wf R R R hb108 R R fo64_1 R <| wl R R R hb108 R R sh26 <| wf R R R hb108 R R fo76_0 R <| wf R R R hb108 R R fo64_1 R <| wl R R R hb108 R R sh26 ?_
   obtain ⟨t109, ht109, h⟩ := vw h
   refine wq R R R hb108 (.s 15 R (.s 18 R .nil)) (vy (f := 116) (A := bA t109) (xs := [.tmp 15, .tmp 18]) («as» := [SlcA kInt a0.fMorphism.fEdges, SlcA kInt a1.fMorphism.fEdges]) R ca116 (ref05_SameInts.con k a0.fMorphism.fEdges a1.fMorphism.fEdges t109 ht109) R).o <| p2 R 12 R 19 R (vQ R hb108) <| mv R R ?_
   rcases bif_s h with ⟨hb110, h⟩ | ⟨hb110, h⟩
   ·refine wf R R R hb110 R R fo76_1 R <| wl R R R hb110 R R sh26 <| wf R R R hb110 R R fo76_1 R <| wl R R R hb110 R R sh26 ?_
    obtain ⟨t111, ht111, h⟩ := vw h
    refine wq R R R hb110 (.s 23 R (.s 25 R .nil)) (vy (f := 116) (A := bA t111) (xs := [.tmp 23, .tmp 25]) («as» := [SlcA kInt a0.fVars, SlcA kInt a1.fVars]) R ca116 (ref05_SameInts.con k a0.fVars a1.fVars t111 ht111) R).o <| p2 R 21 R 26 R (vQ R hb110) <| av R R <| qx ?_
    exact qw (.one R (.nil _)) (Kj106 () t111 h)
   ·refine sk R R R hb110 <| sk R R R hb110 <| sk R R R hb110 <| sk R R R hb110 <| sk R R R hb110 <| pk R 21 R (vj R hb110) <| av R R <| qx ?_
    exact qw (.one R (.nil _)) (Kj106 () false h)
  ·refine sk R R R hb108 <| sk R R R hb108 <| sk R R R hb108 <| sk R R R hb108 <| sk R R R hb108 <| sk R R R hb108 <| sk R R R hb108 <| pk R 12 R (vj R hb108) <| mv R R <| sk R R R R <| sk R R R R <| sk R R R R <| sk R R R R ?_
   refine sk R R R R <| pk R 21 R (vj R R) <| av R R <| qx ?_
   exact qw (.one R (.nil _)) (Kj106 () false h)
end Go.Proofs.YtcgdfjpeboiioaaGreat
