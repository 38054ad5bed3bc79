import Derived.Test.YtcgdfjpeboiioaaGreatVaC9
namespace Go.Proofs.YtcgdfjpeboiioaaGreat
open Go Go.Abs
attribute [local irreducible] Tryz.prog
theorem ref03_square.con (k : Nat) (a0 : Int) (a1 : Int) (a2 : Int) (r : (List (List Int))) (h : ref03_square k a0 a1 a2 = some r) : Con Tryz.prog 99 [] [iA a0, iA a1, iA a2] (RTab 26 3 kInt r) := by
 unfold ref03_square at h
 refine vJ (N := 37) Tryz.func99 R R R fun w0_ fg_ => sr <| ak R <| nx <| ak R <| nt <| qX <| qX ?_
 refine qJ <| ak R <| nt <| vx <| W.to (StTo.newNilT 26 3 kInt) <| W.to (StTo.as 7 R Imp.nilHd) ?_
 refine W.loop2 (Γ := (Value × (List Value))) (fun (g0 : (Value × (List Value))) (_ : (List (List Int))) (x8 : Int) => [(0, iA a0), (1, iA a1), (2, iA a2), (7, HdA g0.1), (8, iA x8)]) (fun (g0 : (Value × (List Value))) (x7 : (List (List Int))) (_ : Int) => [TbE 26 3 g0.1 kInt g0.2 x7]) h ((.slice none 0 0), []) (.o4 R (.one R (.nil _))) R (fun rec0 K0 next0 g0 x7 x8 h => ?_)
 unfold ref03_square.b0 at h
 refine qX <| sr <| mv R R <| mv R R <| p2 R 11 R 12 R (qN R R) <| nt ?_
 refine qZ h R (fun hb223 h => ?_) (fun hb223 h => ?_)
 ·refine qB <| qq <| qX <| vx <| sr <| ak R <| nt <| qX <| sr <| ak R ?_
  refine nt <| vx <| W.to (StTo.newNil 3 kInt) <| W.to (StTo.as 9 R Imp.nilHd) <| W.order [1, 0] R ?_
  refine W.loop2 (Γ := Value) (fun (g1 : Value) (_ : (List Int)) (x10 : Int) => [(0, iA a0), (1, iA a1), (2, iA a2), (7, HdA g0.1), (8, iA x8), (9, HdA g1), (10, iA x10)]) (fun (g1 : Value) (x9 : (List Int)) (_ : Int) => [TbE 26 3 g0.1 kInt g0.2 x7, SlE 3 g1 kInt x9]) h (.slice none 0 0) (.o4 R (.o2 R (.one R (.nil _)))) R (fun rec1 K1 next1 g1 x9 x10 h => ?_)
  unfold ref03_square.b1 at h
  refine qX <| sr <| mv R R <| mv R R <| p2 R 16 R 17 R (qN R R) <| nt ?_
  refine qZ h R (fun hb266 h => ?_) (fun hb266 h => ?_)
  ·refine qB <| qq <| qX <| vx <| sr <| mv R R <| mv R R <| p2 R 21 R 22 R (qN R R) <| nt ?_
   refine qZ h R (fun hb272 h => ?_) (fun hb272 h => ?_)
   ·refine qJ <| mv R R <| mv R R <| p1 R 25 R (q_lit (kd := kInt) (ps := [(0, .tmp 25)]) (xs := [.tmp 25]) («as» := [iA a2]) (ys := [a2]) R R el26 R gr3 R R R (.cons (qW R) .nil)) ?_
    obtain ⟨c273, h⟩ := qK h
    refine WL.w [1] R (qj R) R R (.s 24 R (.s 26 R .nil)) (w_append (kd := kInt) R el26 R gr3 c273) ?_
    rintro _ _ ⟨v274, rfl, rfl⟩
    refine av R R <| qx <| vZ <| qw (env' := [(9, _), (10, _), (8, _), (7, _), (2, _), (1, _), (0, _)]) (.o4 R (.o2 R (.one R (.nil _)))) <| qq <| qJ <| mv R R ?_
    obtain ⟨c275, h⟩ := qK h
    refine pk R 19 R (vK R c275) <| av R R <| qx <| QN.order [1, 0] R ?_
    exact next1 v274 (x9 ++ [a2]) (x10 + 1) _ h (.o4 R (.o2 R (.one R (.nil _))))
   ·refine qJ <| mv R R <| mv R R <| p1 R 29 R (q_lit (kd := kInt) (ps := [(0, .tmp 29)]) (xs := [.tmp 29]) («as» := [iA a1]) (ys := [a1]) R R el26 R gr3 R R R (.cons (qW R) .nil)) ?_
    obtain ⟨c276, h⟩ := qK h
    refine WL.w [1] R (qj R) R R (.s 28 R (.s 30 R .nil)) (w_append (kd := kInt) R el26 R gr3 c276) ?_
    rintro _ _ ⟨v277, rfl, rfl⟩
    refine av R R <| qx <| vZ <| qw (env' := [(9, _), (10, _), (8, _), (7, _), (2, _), (1, _), (0, _)]) (.o4 R (.o2 R (.one R (.nil _)))) <| qq <| qJ <| mv R R ?_
    obtain ⟨c278, h⟩ := qK h
    refine pk R 19 R (vK R c278) <| av R R <| qx <| QN.order [1, 0] R ?_
    exact next1 v277 (x9 ++ [a1]) (x10 + 1) _ h (.o4 R (.o2 R (.one R (.nil _))))
  ·refine W.exit <| qV <| qV <| vB <| qq <| qJ <| mv R R <| mv R R <| p1 R 33 R (q_lit (kd := kVal) (ps := [(0, .tmp 33)]) (xs := [.tmp 33]) («as» := [HdA g1]) (ys := [g1]) R R el58 R gr26 R R R (.cons (qW R) .nil)) ?_
   obtain ⟨c279, h⟩ := qK h
   refine WL.w [0, 0] R (qj R) R R (.s 32 R (.s 34 R .nil)) (w_appendT (kd := kInt) R el58 gr26 c279) ?_
   rintro _ _ ⟨g280, rfl, rfl⟩
   refine av R R <| qx <| vZ <| qq <| qJ <| mv R R ?_
   obtain ⟨c282, h⟩ := qK h
   refine pk R 14 R (vK R c282) <| av R R <| qx ?_
   exact next0 (g280.1, g280.2) (x7 ++ [x9]) (x8 + 1) _ h (.o4 R (.one R (.nil _)))
 ·refine W.exit <| qV <| qV <| vB <| qw (env' := [(7, _)]) (.one R (.nil _)) <| qq <| sr <| mv R R <| av R R <| nt <| vq ?_
  cases h
  exact QR.r1 R R (.t R) ⟨(g0.1, g0.2), R, R⟩
theorem ref03_further.con (k : Nat) (a0 : Int) (a1 : (List Arc3)) (a2 : (List (List Int))) (r : (List (List Int))) (h : ref03_further k a0 a1 a2 = some r) : Con Tryz.prog 100 [] [iA a0, SlcA kArc3 a1, SlcA (kSl kInt) a2] (RA (SlcA (kSl kInt) r)) := by
 unfold ref03_further at h
 refine vJ (N := 65) Tryz.func100 R R R fun w0_ fg_ => sr <| ak R <| nx <| mv R R ?_
 obtain ⟨t100, ht100, h⟩ := vw h
 refine WL.w [] R (qj R) R R (.s 11 R (.k (.k .nil))) (w_callI (f := 99) (xs := [.tmp 11, .const (.int .i64 1125899906842624), .const (.int .i64 1125899906842624)]) («as» := [iA a0, iA 1125899906842624, iA 1125899906842624]) R ca99 (ref03_square.con k a0 1125899906842624 1125899906842624 t100 ht100) R (.cons (Imp.id _) (.cons (Imp.id _) (.cons (Imp.id _) .nil)))) ?_
 rintro _ _ ⟨g101, rfl, rfl⟩
 refine av R R <| nt <| qX <| sr <| ak R <| nt <| vx ?_
 refine W.loop2 (Γ := Unit) (fun (_ : Unit) (_ : (List (List Int))) (x8 : Int) => [(0, iA a0), (1, SlcA kArc3 a1), (2, SlcA (kSl kInt) a2), (7, HdA g101.1), (8, iA x8)]) (fun (_ : Unit) (x7 : (List (List Int))) (_ : Int) => [TbE 26 3 g101.1 kInt g101.2 x7]) h () (.o4 R (.one R (.nil _))) R (fun rec0 K0 next0 _ x7 x8 h => ?_)
 unfold ref03_further.b0 at h
 refine qX <| sr <| mv R R <| mv R R <| p1 R 14 R (vN R elS160) <| p2 R 13 R 15 R (qN R R) <| nt ?_
 refine qZ h R (fun hb409 h => ?_) (fun hb409 h => ?_)
 ·refine qB <| qq <| qX <| vx <| sr <| mv R R <| mv R R ?_
  obtain ⟨c410, h⟩ := qK h
  refine p2 R 19 R 20 R (vX R el160 R c410.1 c410.2) <| lS R R sh166 R R <| WL.w [] R (qj R) R R .nil (w_alloc R z166 (l := [iA 0, iA 0, iA 0, iA 0, iA 0]) R) ?_
  rintro _ _ ⟨b411, rfl, rfl⟩
  refine WL.w0 [0] R (qj R) R (.s 9 R (.s 22 R .nil)) (w_store (L := [iA ((rd a1 x8).fuse.fTest), iA ((rd a1 x8).fuse.fSign), iA ((rd a1 x8).ffrom), iA ((rd a1 x8).fto), iA ((rd a1 x8).fc)]) R sh166 (qy _) R R (leB R) R) ?_
  rintro _ _ ⟨rfl, rfl⟩
  refine qx <| QN.to (StTo.still [0] 9 R R) <| qw (env' := [(9, _), (8, _), (7, _), (2, _), (1, _), (0, _)]) (.o4 R (.o2 R (.nil _))) <| qq <| sr <| ak R <| nt <| vx ?_
  refine W.loop2 (Γ := Unit) (fun (_ : Unit) (_ : (List (List Int))) (x10 : Int) => [(0, iA a0), (1, SlcA kArc3 a1), (2, SlcA (kSl kInt) a2), (7, HdA g101.1), (8, iA x8), (9, PtrA [iA ((rd a1 x8).fuse.fTest), iA ((rd a1 x8).fuse.fSign), iA ((rd a1 x8).ffrom), iA ((rd a1 x8).fto), iA ((rd a1 x8).fc)]), (10, iA x10)]) (fun (_ : Unit) (x7' : (List (List Int))) (_ : Int) => [TbE 26 3 g101.1 kInt g101.2 x7']) h () (.o4 R (.o2 R (.one R (.nil _)))) R (fun rec1 K1 next1 _ x7' x10 h => ?_)
  unfold ref03_further.b1 at h
  refine qX <| sr <| mv R R <| mv R R <| p2 R 23 R 24 R (qN R R) <| nt ?_
  refine qZ h R (fun hb512 h => ?_) (fun hb512 h => ?_)
  ·refine qB <| qq <| qX <| vx <| sr <| mv R R <| fd R R fo166_2 R <| ld R R sh3 ?_
   obtain ⟨c513, h⟩ := qK h
   refine p2 R 28 R 30 R (vX R el58 R c513.1 c513.2) <| ld R R sh26 <| mv R R ?_
   obtain ⟨c514, h⟩ := qK h
   refine p2 R 32 R 33 R (vX R el26 R c514.1 c514.2) <| ld R R sh3 <| pk R 35 R (qN R R) <| qx <| qw (env' := [(36, _), (10, _), (9, _), (8, _), (7, _), (2, _), (1, _), (0, _)]) (.o4 R (.o4 R (.nil _))) <| qq ?_
   refine qZ h R (fun hb537 h => ?_) (fun hb537 h => ?_)
   ·refine W.drawK [(0, false), (1, false), (2, false), (3, true), (4, true), (5, false), (6, false), (7, false), (8, false), (9, true), (10, true), (11, false), (12, true), (13, true), (14, false), (15, false), (16, false), (17, false), (18, false), (19, false), (20, false), (21, false), (22, false), (23, false), (24, false), (25, false), (26, true)] [27] (bm [0, 0, 2, 7, 15, 0, 0, 0, 128, 448, 960, 0, 4032, 8128, 0, 16384, 0, 0, 131072, 458752, 983040, 0, 4128768, 8323072, 16760832, 33554368, 67108863, 134217727]) mx (by kernel_rfl) <| dm R R R <| df R R R fo166_1 R <| dl R R R sh3 ?_
    obtain ⟨c552, h⟩ := qK h
    refine qz R R (.o R (.s 37 R (.s 39 R .nil)) R (q_indexT R el58 (j := 0) R c552.1 c552.2)) <| qz R R (.o R (.s 40 R .nil) R (q_loadT R sh26 (j := 0) R c552.1 c552.2)) <| dm R R R <| dm R R R <| df R R R fo166_1 R <| dl R R R sh3 ?_
    obtain ⟨c553, h⟩ := qK h
    refine qz R R (.o R (.s 43 R (.s 45 R .nil)) R (q_indexT R el58 (j := 0) R c553.1 c553.2)) <| qz R R (.o R (.s 46 R .nil) R (q_loadT R sh26 (j := 0) R c553.1 c553.2)) <| dm R R R ?_
    obtain ⟨c554, h⟩ := qK h
    refine qz R R (.o R (.s 47 R (.s 48 R .nil)) R (q_indexR R el26 (j := 0) R c553.1 c553.2 c554.1 c554.2)) <| qz R R (.o R (.s 49 R .nil) R (q_loadR R sh3 (j := 0) R R c553.1 c553.2 c554.1 c554.2 R)) <| df R R R fo166_3 R <| dl R R R sh3 <| dm R R R <| df R R R fo166_2 R <| dl R R R sh3 ?_
    obtain ⟨c555, h⟩ := qK h
    refine qz R R (.p R (.s 53 R (.s 55 R .nil)) R (vX R el58 R c555.1 c555.2)) <| dl R R R sh26 <| dm R R R ?_
    obtain ⟨c556, h⟩ := qK h
    refine qz R R (.p R (.s 57 R (.s 58 R .nil)) R (vX R el26 R c556.1 c556.2)) <| dl R R R sh3 ?_
    obtain ⟨c557, h⟩ := qK h
    refine qz R R (.p R (.s 52 R (.s 60 R .nil)) R (vK R c557)) <| qz R R (.p R (.s 50 R (.s 61 R .nil)) R (q_min R)) ?_
    obtain ⟨c558, h⟩ := qK h
    refine qz R R (.o R (.s 41 R (.s 42 R .nil)) R (q_indexR R el26 (j := 0) R c552.1 c552.2 c558.1 c558.2)) <| DK.nil <| CSteps.w0 [0] R R R (.s 63 R (.s 62 R .nil)) R (w_storeR (kd := kInt) (z := (minI (rd (rd x7' ((rd a1 x8).ffrom)) x10) ((rd a1 x8).fc + (rd (rd a2 ((rd a1 x8).fto)) x10)))) R sh3 (qW R) R R R c552.1 c552.2 c558.1 c558.2 R R) ?_
    rintro _ _ ⟨rfl, rfl⟩
    refine CSteps.nil <| vZ <| qw (env' := [(10, _), (9, _), (8, _), (7, _), (2, _), (1, _), (0, _)]) (.o4 R (.o2 R (.one R (.nil _)))) <| qq <| qJ <| mv R R ?_
    obtain ⟨c559, h⟩ := qK h
    refine pk R 26 R (vK R c559) <| av R R <| qx ?_
    exact next1 () (x7'.set ((rd a1 x8).ffrom : Int).toNat ((rd x7' ((rd a1 x8).ffrom)).set (x10 : Int).toNat (minI (rd (rd x7' ((rd a1 x8).ffrom)) x10) ((rd a1 x8).fc + (rd (rd a2 ((rd a1 x8).fto)) x10))))) (x10 + 1) _ h (.o4 R (.o2 R (.one R (.nil _))))
   ·refine qB <| vZ <| qq <| qJ <| mv R R ?_
    obtain ⟨c560, h⟩ := qK h
    refine pk R 26 R (vK R c560) <| av R R <| qx ?_
    exact next1 () x7' (x10 + 1) _ h (.o4 R (.o2 R (.one R (.nil _))))
  ·refine W.exit <| qV <| qV <| vB <| vZ <| qq <| qJ <| mv R R ?_
   obtain ⟨c561, h⟩ := qK h
   refine pk R 17 R (vK R c561) <| av R R <| qx ?_
   exact next0 () x7' (x8 + 1) _ h (.o4 R (.one R (.nil _)))
 ·refine W.exit <| qV <| qV <| vB <| qw (env' := [(7, _)]) (.one R (.nil _)) <| qq <| sr <| mv R R <| av R R <| nt <| vq ?_
  cases h
  exact vW R R (.t R) (.tab 0 R)
theorem ref03_distances.con (k : Nat) (a0 : Int) (a1 : (List Test)) (r : ((List (List Int)) × Bool)) (h : ref03_distances k a0 a1 = some r) : Con Tryz.prog 97 [] [iA a0, SlcA kTest a1] (RA (TupA [SlcA (kSl kInt) r.1, bA r.2])) := by
 unfold ref03_distances at h
 refine vJ (N := 74) Tryz.func97 R R R fun w0_ fg_ => sr <| ak R <| ak R <| nx <| mv R R ?_
 obtain ⟨t100, ht100, h⟩ := vw h
 refine p1 R 13 R (vy (f := 98) (A := SlcA kArc3 t100) (xs := [.tmp 13]) («as» := [SlcA kTest a1]) R ca98 (ref03_arcs.con k a1 t100 ht100) R) <| av R R <| nx <| mv R R ?_
 obtain ⟨t101, ht101, h⟩ := vw h
 refine WL.w [] R (qj R) R R (.s 15 R (.k (.k .nil))) (w_callI (f := 99) (xs := [.tmp 15, .const (.int .i64 1125899906842624), .const (.int .i64 0)]) («as» := [iA a0, iA 1125899906842624, iA 0]) R ca99 (ref03_square.con k a0 1125899906842624 0 t101 ht101) R (.cons (Imp.id _) (.cons (Imp.id _) (.cons (Imp.id _) .nil)))) ?_
 rintro _ _ ⟨g102, rfl, rfl⟩
 refine mv R R ?_
 obtain ⟨t104, ht104, h⟩ := vw h
 refine WL.p R R R (.s 17 R (.k (.k .nil))) (vy (f := 99) (A := SlcA (kSl kInt) t104) (xs := [.tmp 17, .const (.int .i64 1125899906842624), .const (.int .i64 0)]) («as» := [iA a0, iA 1125899906842624, iA 0]) R ca99 (Con.freeT (ref03_square.con k a0 1125899906842624 0 t104 ht104)) R) <| av R R <| av R R <| qx <| qw (env' := [(8, _), (7, _), (6, _), (0, _)]) (.o4 R (.nil _)) <| qq <| qX <| sr <| ak R <| nt <| vx ?_
 refine W.loop3 (Γ := Unit) (fun (_ : Unit) (_ : (List (List Int))) (x8 : (List (List Int))) (x9 : Int) => [(0, iA a0), (6, SlcA kArc3 t100), (7, HdA g102.1), (8, SlcA (kSl kInt) x8), (9, iA x9)]) (fun (_ : Unit) (x7 : (List (List Int))) (_ : (List (List Int))) (_ : Int) => [TbE 26 3 g102.1 kInt g102.2 x7]) h () (.o4 R (.one R (.nil _))) R (fun rec0 K0 next0 _ x7 x8 x9 h => ?_)
 unfold ref03_distances.b0 at h
 refine qX <| sr <| mv R R <| mv R R ?_
 obtain ⟨c527, h⟩ := qK h
 refine pk R 20 R (vK R c527) <| p2 R 19 R 21 R (qN R R) <| nt ?_
 refine qZ h R (fun hb528 h => ?_) (fun hb528 h => ?_)
 ·refine qB <| qq <| qX <| vx <| sr <| mv R R <| mv R R <| mv R R ?_
  obtain ⟨t529, ht529, h⟩ := vw h
  refine WL.p R R R (.s 25 R (.s 26 R (.s 27 R .nil))) (vy (f := 100) (A := SlcA (kSl kInt) t529) (xs := [.tmp 25, .tmp 26, .tmp 27]) («as» := [iA a0, SlcA kArc3 t100, SlcA (kSl kInt) x8]) R ca100 (ref03_further.con k a0 t100 x8 t529 ht529) R) <| av R R <| qx <| qw (env' := [(8, _), (9, _), (7, _), (6, _), (0, _)]) (.o4 R (.one R (.nil _))) <| qq <| sr <| ak R <| nt <| vx ?_
  refine W.loop2 (Γ := Unit) (fun (_ : Unit) (_ : (List (List Int))) (x10 : Int) => [(0, iA a0), (6, SlcA kArc3 t100), (7, HdA g102.1), (9, iA x9), (8, SlcA (kSl kInt) t529), (10, iA x10)]) (fun (_ : Unit) (x7' : (List (List Int))) (_ : Int) => [TbE 26 3 g102.1 kInt g102.2 x7']) h () (.o4 R (.o2 R (.nil _))) R (fun rec1 K1 next1 _ x7' x10 h => ?_)
  unfold ref03_distances.b1 at h
  refine qX <| sr <| mv R R <| mv R R <| p2 R 29 R 30 R (qN R R) <| nt ?_
  refine qZ h R (fun hb658 h => ?_) (fun hb658 h => ?_)
  ·refine qB <| qq <| qX <| vx <| sr <| ak R <| nt <| vx ?_
   refine W.loop2 (Γ := Unit) (fun (_ : Unit) (_ : (List (List Int))) (x11 : Int) => [(0, iA a0), (6, SlcA kArc3 t100), (7, HdA g102.1), (9, iA x9), (8, SlcA (kSl kInt) t529), (10, iA x10), (11, iA x11)]) (fun (_ : Unit) (x7'' : (List (List Int))) (_ : Int) => [TbE 26 3 g102.1 kInt g102.2 x7'']) h () (.o4 R (.o2 R (.one R (.nil _)))) R (fun rec2 K2 next2 _ x7'' x11 h => ?_)
   unfold ref03_distances.b2 at h
   refine qX <| sr <| mv R R <| mv R R <| p2 R 34 R 35 R (qN R R) <| nt ?_
   refine qZ h R (fun hb701 h => ?_) (fun hb701 h => ?_)
   ·refine qB <| qq <| qX <| vx <| W.drawK [(0, false), (1, false), (2, true), (3, true), (4, false), (5, false), (6, false), (7, true), (8, true), (9, false), (10, true), (11, true), (12, false), (13, false), (14, false), (15, false), (16, false), (17, false), (18, false), (19, false), (20, true)] [21] (bm [0, 0, 3, 7, 0, 0, 0, 96, 224, 0, 992, 2016, 0, 0, 12288, 28672, 0, 126976, 258048, 524256, 1048575, 2097151]) mx (by kernel_rfl) <| dm R R R <| dm R R R ?_
    obtain ⟨c714, h⟩ := qK h
    refine qz R R (.o R (.s 39 R (.s 40 R .nil)) R (q_indexT R el58 (j := 0) R c714.1 c714.2)) <| qz R R (.o R (.s 41 R .nil) R (q_loadT R sh26 (j := 0) R c714.1 c714.2)) <| dm R R R <| dm R R R <| dm R R R ?_
    obtain ⟨c715, h⟩ := qK h
    refine qz R R (.o R (.s 44 R (.s 45 R .nil)) R (q_indexT R el58 (j := 0) R c715.1 c715.2)) <| qz R R (.o R (.s 46 R .nil) R (q_loadT R sh26 (j := 0) R c715.1 c715.2)) <| dm R R R ?_
    obtain ⟨c716, h⟩ := qK h
    refine qz R R (.o R (.s 47 R (.s 48 R .nil)) R (q_indexR R el26 (j := 0) R c715.1 c715.2 c716.1 c716.2)) <| qz R R (.o R (.s 49 R .nil) R (q_loadR R sh3 (j := 0) R R c715.1 c715.2 c716.1 c716.2 R)) <| dm R R R <| dm R R R ?_
    obtain ⟨c717, h⟩ := qK h
    refine qz R R (.p R (.s 51 R (.s 52 R .nil)) R (vX R el58 R c717.1 c717.2)) <| dl R R R sh26 <| dm R R R ?_
    obtain ⟨c718, h⟩ := qK h
    refine qz R R (.p R (.s 54 R (.s 55 R .nil)) R (vX R el26 R c718.1 c718.2)) <| dl R R R sh3 <| qz R R (.p R (.s 50 R (.s 57 R .nil)) R (q_min R)) ?_
    obtain ⟨c719, h⟩ := qK h
    refine qz R R (.o R (.s 42 R (.s 43 R .nil)) R (q_indexR R el26 (j := 0) R c714.1 c714.2 c719.1 c719.2)) <| DK.nil <| CSteps.w0 [0] R R R (.s 59 R (.s 58 R .nil)) R (w_storeR (kd := kInt) (z := (minI (rd (rd x7'' x10) x11) (rd (rd t529 x10) x11))) R sh3 (qW R) R R R c714.1 c714.2 c719.1 c719.2 R R) ?_
    rintro _ _ ⟨rfl, rfl⟩
    refine CSteps.nil <| vZ <| qw (env' := [(11, _), (10, _), (8, _), (9, _), (7, _), (6, _), (0, _)]) (.o4 R (.o2 R (.one R (.nil _)))) <| qq <| qJ <| mv R R ?_
    obtain ⟨c720, h⟩ := qK h
    refine pk R 37 R (vK R c720) <| av R R <| qx ?_
    exact next2 () (x7''.set (x10 : Int).toNat ((rd x7'' x10).set (x11 : Int).toNat (minI (rd (rd x7'' x10) x11) (rd (rd t529 x10) x11)))) (x11 + 1) _ h (.o4 R (.o2 R (.one R (.nil _))))
   ·refine W.exit <| qV <| qV <| vB <| vZ <| qq <| qJ <| mv R R ?_
    obtain ⟨c721, h⟩ := qK h
    refine pk R 32 R (vK R c721) <| av R R <| qx ?_
    exact next1 () x7'' (x10 + 1) _ h (.o4 R (.o2 R (.nil _)))
  ·refine W.exit <| qV <| qV <| vB <| vZ <| qq <| qJ <| mv R R ?_
   obtain ⟨c722, h⟩ := qK h
   refine pk R 23 R (vK R c722) <| av R R <| qx ?_
   exact next0 () x7' t529 (x9 + 1) _ h (.o4 R (.one R (.nil _)))
 ·refine W.exit <| qV <| qV <| vB <| qw (env' := [(7, _), (0, _)]) (.o2 R (.nil _)) <| qq <| qX <| sr <| ak R <| nt <| vx ?_
  refine W.loop1 (Γ := Unit) (fun (_ : Unit) (x12 : Int) => [(0, iA a0), (7, HdA g102.1), (12, iA x12)]) (fun (_ : Unit) (_ : Int) => [TbE 26 3 g102.1 kInt g102.2 x7]) h () (.o2 R (.one R (.nil _))) R (fun rec3 K3 next3 _ x12 h => ?_)
  unfold ref03_distances.b3 at h
  refine qX <| sr <| mv R R <| mv R R <| p2 R 60 R 61 R (qN R R) <| nt ?_
  refine qZ h R (fun hb733 h => ?_) (fun hb733 h => ?_)
  ·refine qB <| qq <| qX <| vx <| sr <| mv R R <| mv R R ?_
   obtain ⟨c734, h⟩ := qK h
   refine WL.q (qj R) R R (.s 65 R (.s 66 R .nil)) (q_indexT R el58 (j := 0) R c734.1 c734.2) <| WL.q (qj R) R R (.s 67 R .nil) (q_loadT R sh26 (j := 0) R c734.1 c734.2) <| mv R R ?_
   obtain ⟨c735, h⟩ := qK h
   refine WL.q (qj R) R R (.s 68 R (.s 69 R .nil)) (q_indexR R el26 (j := 0) R c734.1 c734.2 c735.1 c735.2) <| WL.q (qj R) R R (.s 70 R .nil) (q_loadR R sh3 (j := 0) R R c734.1 c734.2 c735.1 c735.2 R) <| pk R 71 R (qN R R) <| qx <| qw (env' := [(72, _), (12, _), (7, _), (0, _)]) (.o4 R (.nil _)) <| qq ?_
   refine qZ h R (fun hb736 h => ?_) (fun hb736 h => ?_)
   ·refine sr <| ak R <| ak R <| nt <| vq <| vz <| qQ <| qQ <| vz <| qQ ?_
    cases h
    exact QR.f2 R R (.t R) (.t R) (.imp (Imp.tup (.cons (Imp.nil (kSl kInt)) (.cons (Imp.id _) .nil))))
   ·refine qB <| vZ <| qq <| qJ <| mv R R ?_
    obtain ⟨c737, h⟩ := qK h
    refine pk R 63 R (vK R c737) <| av R R <| qx ?_
    exact next3 () (x12 + 1) _ h (.o2 R (.one R (.nil _)))
  ·refine W.exit <| qV <| qV <| vB <| qq <| sr <| mv R R <| av R R <| ak R <| qx <| qw (env' := [(5, _), (4, _)]) (.o2 R (.nil _)) <| qq ?_
   refine vq ?_
   cases h
   exact QR.f2 R R (.t R) (.t R) (.tup (.cons (.tab 0 R) (.cons (.id _) .nil)))
theorem ref03_Refute.con (k : Nat) (a0 : Int) (a1 : (List Test)) (r : ((List Use) × Int)) (h : ref03_Refute k a0 a1 = some r) : Con Tryz.prog 47 [] [iA a0, SlcA kTest a1] (RA (TupA [SlcA kUse r.1, iA r.2])) := by
 unfold ref03_Refute at h
 refine vJ (N := 153) Tryz.func47 R R R fun w0_ fg_ => sr <| ak R <| ak R <| nt <| qX <| sr <| mv R R <| mv R R ?_
 obtain ⟨t100, ht100, h⟩ := vw h
 refine p2 R 22 R 23 R (vy (f := 63) (A := iA t100) (xs := [.tmp 22, .tmp 23]) («as» := [iA a0, SlcA kTest a1]) R ca63 (ref03_Valid.con k a0 a1 t100 ht100) R) <| av R R <| nx <| mv R R <| pk R 25 R (qN R R) <| nt ?_
 refine qZ h R (fun hb101 h => ?_) (fun hb101 h => ?_)
 ·refine sr <| mv R R <| ak R <| av R R <| qx <| qw (env' := [(5, _), (4, _)]) (.o2 R (.nil _)) <| qq <| vq <| qQ ?_
  cases h
  exact QR.f2 R R (.t R) (.t R) (.imp (Imp.tup (.cons (Imp.nil kUse) (.cons (Imp.id _) .nil))))
 ·refine qB <| qw (env' := [(1, _), (0, _)]) (.o2 R (.nil _)) <| qq <| qX <| sr <| mv R R <| mv R R ?_
  obtain ⟨t102, ht102, h⟩ := vw h
  refine p2 R 29 R 30 R (vy (f := 97) (A := TupA [SlcA (kSl kInt) t102.1, bA t102.2]) (xs := [.tmp 29, .tmp 30]) («as» := [iA a0, SlcA kTest a1]) R ca97 (ref03_distances.con k a0 a1 t102 ht102) R) <| mv R R <| p1 R 28 R (vV R R) <| p1 R 28 R (vV R R) <| av R R <| av R R <| qx <| qw (env' := [(8, _), (1, _), (0, _)]) (.o2 R (.one R (.nil _))) <| qq <| sr <| mv R R <| qx ?_
  refine qq ?_
  refine qZ h R (fun hb103 h => ?_) (fun hb103 h => ?_)
  ·refine sr <| ak R <| ak R <| nt <| vq <| qQ ?_
   cases h
   exact QR.f2 R R (.t R) (.t R) (.imp (Imp.tup (.cons (Imp.nil kUse) (.cons (Imp.id _) .nil))))
  ·refine qB <| qq <| sr <| mv R R ?_
   obtain ⟨t104, ht104, h⟩ := vw h
   refine p1 R 35 R (vy (f := 98) (A := SlcA kArc3 t104) (xs := [.tmp 35]) («as» := [SlcA kTest a1]) R ca98 (ref03_arcs.con k a1 t104 ht104) R) <| av R R <| nx <| mv R R ?_
   obtain ⟨t105, ht105, h⟩ := vw h
   refine WL.p R R R (.s 37 R (.k (.k .nil))) (vy (f := 99) (A := SlcA (kSl kInt) t105) (xs := [.tmp 37, .const (.int .i64 1125899906842624), .const (.int .i64 0)]) («as» := [iA a0, iA 1125899906842624, iA 0]) R ca99 (Con.freeT (ref03_square.con k a0 1125899906842624 0 t105 ht105)) R) <| WL.w [] R (qj R) R R (.s 38 R .nil) (w_lit (kd := (kSl (kSl kInt))) (ps := [(0, .tmp 38)]) (xs := [.tmp 38]) («as» := [SlcA (kSl kInt) t105]) (ys := [t105]) R R el163 R gr58 R R R (.cons (qW R) .nil)) ?_
   rintro _ _ ⟨v106, rfl, rfl⟩
   refine av R R <| qx <| qw (env' := [(10, _), (9, _), (0, _)]) (.o2 R (.one R (.nil _))) <| qq <| sr <| ak R <| nt <| qX <| vx ?_
   refine W.loop2 (Γ := Value) (fun (g0 : Value) (_ : (List (List (List Int)))) (x11 : Bool) => [(0, iA a0), (9, SlcA kArc3 t104), (10, HdA g0), (11, bA x11)]) (fun (g0 : Value) (x10 : (List (List (List Int)))) (_ : Bool) => [SlE 58 g0 (kSl (kSl kInt)) x10]) h v106 (.o4 R (.nil _)) R (fun rec0 K0 next0 g0 x10 x11 h => ?_)
   unfold ref03_Refute.b0 at h
   refine qX <| sr <| mv R R <| p1 R 40 R (q_not R) <| nt ?_
   refine qZ h R (fun hb1992 h => ?_) (fun hb1992 h => ?_)
   ·refine qB <| qq <| vx <| sr <| mv R R <| mv R R <| mv R R <| mv R R <| WL.q (qj R) R R (.s 45 R .nil) (q_lenO R elS163 (i := 0) R) ?_
    obtain ⟨c1993, h⟩ := qK h
    refine pk R 46 R (q_subR R c1993) ?_
    obtain ⟨c1994, h⟩ := qK h
    refine WL.q (qj R) R R (.s 44 R (.s 47 R .nil)) (q_indexO R el163 (j := 0) R c1994.1 c1994.2) <| WL.q (qj R) R R (.s 48 R .nil) (q_loadEl R sh58 (j := 0) R R c1994.1 c1994.2 R) ?_
    obtain ⟨t1995, ht1995, h⟩ := vw h
    refine WL.p R R R (.s 42 R (.s 43 R (.s 49 R .nil))) (vy (f := 100) (A := SlcA (kSl kInt) t1995) (xs := [.tmp 42, .tmp 43, .tmp 49]) («as» := [iA a0, SlcA kArc3 t104, SlcA (kSl kInt) (rd x10 ((x10.length : Int) - 1))]) R ca100 (ref03_further.con k a0 t104 (rd x10 ((x10.length : Int) - 1)) t1995 ht1995) R) <| av R R <| qx <| qw (env' := [(12, _), (11, _), (10, _), (9, _), (0, _)]) (.o4 R (.one R (.nil _))) <| qq <| sr <| mv R R <| mv R R <| p1 R 52 R (q_lit (kd := (kSl (kSl kInt))) (ps := [(0, .tmp 52)]) (xs := [.tmp 52]) («as» := [SlcA (kSl kInt) t1995]) (ys := [t1995]) R R el163 R gr58 R R R (.cons (qW R) .nil)) ?_
    obtain ⟨c1996, h⟩ := qK h
    refine WL.w [0] R (qj R) R R (.s 51 R (.s 53 R .nil)) (w_append (kd := (kSl (kSl kInt))) R el163 R gr58 c1996) ?_
    rintro _ _ ⟨v1997, rfl, rfl⟩
    refine av R R <| nx <| ak R <| nt <| vx ?_
    refine W.loop2 (Γ := Unit) (fun (_ : Unit) (x11' : Bool) (x13 : Int) => [(0, iA a0), (9, SlcA kArc3 t104), (11, bA x11'), (12, SlcA (kSl kInt) t1995), (10, HdA v1997), (13, iA x13)]) (fun (_ : Unit) (_ : Bool) (_ : Int) => [SlE 58 v1997 (kSl (kSl kInt)) (x10 ++ [t1995])]) h () (.o4 R (.o2 R (.nil _))) R (fun rec1 K1 next1 _ x11' x13 h => ?_)
    unfold ref03_Refute.b1 at h
    refine qX <| sr <| mv R R <| mv R R <| p2 R 55 R 56 R (qN R R) <| nt ?_
    refine qZ h R (fun hb2018 h => ?_) (fun hb2018 h => ?_)
    ·refine qB <| qq <| qX <| vx ?_
     refine W.jn1 (Γ := Unit) (fun (_ : Unit) (x11'' : Bool) => [(0, iA a0), (9, SlcA kArc3 t104), (12, SlcA (kSl kInt) t1995), (10, HdA v1997), (13, iA x13), (11, bA x11'')]) (fun (_ : Unit) (_ : Bool) => [SlE 58 v1997 (kSl (kSl kInt)) (x10 ++ [t1995])]) h (fun _ x11'' h => ?_) (fun j2023 Kj2023 h => ?_)
     ·refine vZ <| qq <| qJ <| mv R R ?_
      obtain ⟨c2024, h⟩ := qK h
      refine pk R 58 R (vK R c2024) <| av R R <| qx ?_
      exact next1 () x11'' (x13 + 1) _ h (.o4 R (.o2 R (.nil _)))
     ·refine qJ <| mv R R <| mv R R ?_
      rcases bif_s h with ⟨hb2025, h⟩ | ⟨hb2025, h⟩
      ·refine sk R R R hb2025 <| sk R R R hb2025 <| sk R R R hb2025 <| sk R R R hb2025 <| sk R R R hb2025 <| sk R R R hb2025 <| sk R R R hb2025 <| sk R R R hb2025 <| pk R 61 R (vQ R hb2025) <| av R R <| qx ?_
       exact qw (.o4 R (.o2 R (.nil _))) (Kj2023 () true h)
      ·refine wm R R R hb2025 R R <| wm R R R hb2025 R R ?_
       obtain ⟨c2026, h⟩ := qK h
       refine wq R R R hb2025 (.s 62 R (.s 63 R .nil)) (vX R el58 R c2026.1 c2026.2).o <| wl R R R hb2025 R R sh26 <| wm R R R hb2025 R R ?_
       obtain ⟨c2027, h⟩ := qK h
       refine wq R R R hb2025 (.s 65 R (.s 66 R .nil)) (vX R el26 R c2027.1 c2027.2).o <| wl R R R hb2025 R R sh3 <| wq R R R hb2025 (.s 68 R (.k .nil)) (qN R R).o <| p2 R 61 R 69 R (vj R hb2025) <| av R R <| qx ?_
       exact qw (.o4 R (.o2 R (.nil _))) (Kj2023 () (decide ((rd (rd t1995 x13) x13) < 0)) h)
    ·refine W.exit <| qV <| qV <| vB <| vZ ?_
     exact next0 v1997 (x10 ++ [t1995]) x11' _ h (.o4 R (.nil _))
   ·refine W.exit <| qV <| qV <| vB <| qq <| sr <| ak R <| nx <| ak R ?_
    refine ak R <| ak R <| nt <| qX <| sr <| mv R R <| WL.q (qj R) R R (.s 71 R .nil) (q_lenO R elS163 (i := 0) R) ?_
    obtain ⟨c2028, h⟩ := qK h
    refine pk R 72 R (q_subR R c2028) <| av R R <| qx <| qw (env' := [(18, _), (17, _), (16, _), (15, _), (14, _), (10, _), (9, _)]) (.o4 R (.o2 R (.one R (.nil _)))) <| qq <| vx <| W.to (StTo.newNil 52 kUse) <| W.to (StTo.as 14 R Imp.nilHd) <| W.order [1, 0] R ?_
    refine W.loop5 (Γ := Value) (fun (g2 : Value) (_ : (List Use)) (x15 : Int) (x16 : Int) (x17 : Int) (x18 : Int) => [(9, SlcA kArc3 t104), (10, HdA g0), (14, HdA g2), (15, iA x15), (16, iA x16), (17, iA x17), (18, iA x18)]) (fun (g2 : Value) (x14 : (List Use)) (_ : Int) (_ : Int) (_ : Int) (_ : Int) => [SlE 58 g0 (kSl (kSl kInt)) x10, SlE 52 g2 kUse x14]) h (.slice none 0 0) (.o4 R (.o2 R (.one R (.nil _)))) R (fun rec2 K2 next2 g2 x14 x15 x16 x17 x18 h => ?_)
    unfold ref03_Refute.b2 at h
    refine qX <| sr <| mv R R <| pk R 74 R (qN R R) <| nt ?_
    refine qZ h R (fun hb3242 h => ?_) (fun hb3242 h => ?_)
    ·refine qB <| qq <| qX <| vx <| sr <| ak R <| nt ?_
     refine W.jn4 (Γ := Value) (fun (g3540 : Value) (_ : (List Use)) (x15' : Int) (x16' : Int) (x17' : Int) => [(9, SlcA kArc3 t104), (10, HdA g0), (18, iA x18), (14, HdA g3540), (15, iA x15'), (16, iA x16'), (17, iA x17')]) (fun (g3540 : Value) (x14' : (List Use)) (_ : Int) (_ : Int) (_ : Int) => [SlE 58 g0 (kSl (kSl kInt)) x10, SlE 52 g3540 kUse x14']) h (fun g3540 x14' x15' x16' x17' h => ?_) (fun j3543 Kj3543 h => ?_)
     ·refine vZ <| qq <| qJ <| mv R R ?_
      obtain ⟨c3544, h⟩ := qK h
      refine pk R 76 R (q_subR R c3544) <| av R R <| qx ?_
      exact next2 g3540 x14' x15' x16' x17' (x18 - 1) _ h (.o4 R (.o2 R (.one R (.nil _))))
     ·refine vx ?_
      refine W.loop1 (Γ := Unit) (fun (_ : Unit) (x19 : Int) => [(9, SlcA kArc3 t104), (10, HdA g0), (14, HdA g2), (15, iA x15), (16, iA x16), (17, iA x17), (18, iA x18), (19, iA x19)]) (fun (_ : Unit) (_ : Int) => [SlE 58 g0 (kSl (kSl kInt)) x10, SlE 52 g2 kUse x14]) h () (.o4 R (.o4 R (.nil _))) R (fun rec3 K3 next3 _ x19 h => ?_)
      unfold ref03_Refute.b3 at h
      refine qX <| sr <| mv R R <| mv R R <| p1 R 79 R (vN R elS160) <| p2 R 78 R 80 R (qN R R) <| nt ?_
      refine qZ h R (fun hb3743 h => ?_) (fun hb3743 h => ?_)
      ·refine qB <| qq <| qX <| vx <| qX <| qX ?_
       refine W.jn1 (Γ := Unit) (fun (_ : Unit) (x94 : Bool) => [(9, SlcA kArc3 t104), (10, HdA g0), (14, HdA g2), (15, iA x15), (16, iA x16), (17, iA x17), (18, iA x18), (19, iA x19), (94, bA x94)]) (fun (_ : Unit) (_ : Bool) => [SlE 58 g0 (kSl (kSl kInt)) x10, SlE 52 g2 kUse x14]) h (fun _ x94 h => ?_) (fun j3795 Kj3795 h => ?_)
       ·refine qq ?_
        refine qZ h R (fun hb3796 h => ?_) (fun hb3796 h => ?_)
        ·refine W.exit <| qV <| vB <| qq <| qJ <| mv R R ?_
         obtain ⟨c3797, h⟩ := qK h
         refine pk R 82 R (vK R c3797) <| av R R <| qx ?_
         exact next3 () (x19 + 1) _ h (.o4 R (.o4 R (.nil _)))
        ·refine qB <| qq <| sr <| mv R R <| av R R <| nt <| qX <| sr <| mv R R <| pk R 96 R (qN R R) ?_
         refine nt ?_
         refine W.jn1 (Γ := Unit) (fun (_ : Unit) (x20 : Int) => [(9, SlcA kArc3 t104), (10, HdA g0), (14, HdA g2), (15, iA x15), (16, iA x16), (17, iA x17), (18, iA x18), (19, iA x19), (20, iA x20)]) (fun (_ : Unit) (_ : Int) => [SlE 58 g0 (kSl (kSl kInt)) x10, SlE 52 g2 kUse x14]) h (fun _ x20 h => ?_) (fun j3801 Kj3801 h => ?_)
         ·refine qq <| qX <| W.drawK [(0, false), (1, false), (2, true), (3, true), (4, false), (5, false), (6, false), (7, false), (8, false), (9, false), (10, false), (11, false), (12, false), (13, false), (14, false)] [] (bm [0, 0, 3, 7, 0, 0, 48, 112, 240, 511, 1023, 0, 4095, 8191, 16383]) mx (by kernel_rfl) <| dm R R R <| dm R R R ?_
          obtain ⟨c3810, h⟩ := qK h
          refine qz R R (.o R (.s 103 R (.s 104 R .nil)) R (q_indexO R el163 (j := 0) R c3810.1 c3810.2)) <| qz R R (.o R (.s 105 R .nil) R (q_loadEl R sh58 (j := 0) R R c3810.1 c3810.2 R)) <| dm R R R <| dm R R R ?_
          obtain ⟨c3811, h⟩ := qK h
          refine qz R R (.p R (.s 107 R (.s 108 R .nil)) R (vX R el160 R c3811.1 c3811.2)) <| df R R R fo166_2 R <| dl R R R sh3 ?_
          obtain ⟨c3812, h⟩ := qK h
          refine qz R R (.p R (.s 106 R (.s 111 R .nil)) R (vX R el58 R c3812.1 c3812.2)) <| dl R R R sh26 <| dm R R R ?_
          obtain ⟨c3813, h⟩ := qK h
          refine qz R R (.p R (.s 113 R (.s 114 R .nil)) R (vX R el26 R c3813.1 c3813.2)) <| dl R R R sh3 <| qz R R (.p R (.s 116 R .nil) R (q_assign R)) <| DK.nil <| CSteps.nil <| qw (env' := [(21, _), (20, _), (19, _), (18, _), (17, _), (16, _), (15, _), (14, _), (10, _), (9, _)]) (.o4 R (.o4 R (.o2 R (.nil _)))) <| qq <| qX ?_
          refine W.jn1 (Γ := Unit) (fun (_ : Unit) (x130 : Bool) => [(9, SlcA kArc3 t104), (10, HdA g0), (14, HdA g2), (15, iA x15), (16, iA x16), (17, iA x17), (18, iA x18), (19, iA x19), (20, iA x20), (130, bA x130)]) (fun (_ : Unit) (_ : Bool) => [SlE 58 g0 (kSl (kSl kInt)) x10, SlE 52 g2 kUse x14]) h (fun _ x130 h => ?_) (fun j3819 Kj3819 h => ?_)
          ·refine qq ?_
           refine qZ h R (fun hb3820 h => ?_) (fun hb3820 h => ?_)
           ·refine sr <| mv R R <| mv R R <| mv R R ?_
            obtain ⟨c3821, h⟩ := qK h
            refine p2 R 132 R 133 R (vX R el160 R c3821.1 c3821.2) <| fd R R fo166_0 R <| lS R R sh52 R R <| p1 R 136 R (q_lit (kd := kUse) (ps := [(0, .tmp 136)]) (xs := [.tmp 136]) («as» := [AggA [iA ((rd t104 x19).fuse.fTest), iA ((rd t104 x19).fuse.fSign)]]) (ys := [(rd t104 x19).fuse]) R R el45 R gr52 R R R (.cons (qy _) .nil)) ?_
            obtain ⟨c3822, h⟩ := qK h
            refine WL.w [1] R (qj R) R R (.s 131 R (.s 137 R .nil)) (w_append (kd := kUse) R el45 R gr52 c3822) ?_
            rintro _ _ ⟨v3823, rfl, rfl⟩
            refine av R R <| qx <| qw (env' := [(14, _), (20, _), (19, _), (18, _), (17, _), (10, _), (9, _)]) (.o4 R (.o2 R (.one R (.nil _)))) <| qq <| qX <| W.drawK [(0, false), (1, false), (2, false), (3, false), (4, false), (5, false), (6, false), (7, false), (8, false), (9, false), (10, false), (11, false), (12, false), (13, false), (14, false), (15, false)] [] (bm [0, 0, 0, 6, 14, 30, 0, 0, 0, 384, 896, 1920, 4032, 1, 8255, 32767]) mx (by kernel_rfl) <| dm R R R <| dm R R R <| dm R R R ?_
            obtain ⟨c3830, h⟩ := qK h
            refine qz R R (.p R (.s 140 R (.s 141 R .nil)) R (vX R el160 R c3830.1 c3830.2)) <| df R R R fo166_2 R <| dl R R R sh3 <| dm R R R <| dm R R R <| dm R R R ?_
            obtain ⟨c3831, h⟩ := qK h
            refine qz R R (.p R (.s 146 R (.s 147 R .nil)) R (vX R el160 R c3831.1 c3831.2)) <| df R R R fo166_3 R <| dl R R R sh3 ?_
            obtain ⟨c3832, h⟩ := qK h
            refine qz R R (.p R (.s 145 R (.s 150 R .nil)) R (vK R c3832)) <| qz R R (.p R (.s 139 R .nil) R (q_assign R)) <| qz R R (.p R (.s 144 R .nil) R (q_assign R)) <| qz R R (.p R (.s 151 R .nil) R (q_assign R)) <| DK.nil <| CSteps.nil <| qw (env' := [(17, _), (16, _), (15, _), (14, _), (18, _), (10, _), (9, _)]) (.o4 R (.o2 R (.one R (.nil _)))) <| qq <| W.exit <| QX.there R <| qV <| qV <| vB ?_
            refine QN.order [1, 0] R ?_
            exact qw (.o4 R (.o2 R (.one R (.nil _)))) (Kj3543 v3823 (x14 ++ [(rd t104 x19).fuse]) x20 ((rd t104 x19).fto) (x17 + (rd t104 x19).fc) h)
           ·refine qB <| vZ <| qq <| qJ <| mv R R ?_
            obtain ⟨c3833, h⟩ := qK h
            refine pk R 82 R (vK R c3833) <| av R R <| qx ?_
            exact next3 () (x19 + 1) _ h (.o4 R (.o4 R (.nil _)))
          ·refine qJ <| mv R R <| pk R 117 R (qN R R) <| mv R R ?_
           rcases bif_s h with ⟨hb3834, h⟩ | ⟨hb3834, h⟩
           ·refine wm R R R hb3834 R R <| wm R R R hb3834 R R <| wm R R R hb3834 R R ?_
            obtain ⟨c3835, h⟩ := qK h
            refine wq R R R hb3834 (.s 121 R (.s 122 R .nil)) (vX R el160 R c3835.1 c3835.2).o <| wf R R R hb3834 R R fo166_3 R <| wl R R R hb3834 R R sh3 ?_
            obtain ⟨c3836, h⟩ := qK h
            refine wq R R R hb3834 (.s 120 R (.s 125 R .nil)) (vK R c3836).o <| wm R R R hb3834 R R ?_
            obtain ⟨c3837, h⟩ := qK h
            refine wq R R R hb3834 (.s 126 R (.s 127 R .nil)) (vK R c3837).o <| wq R R R hb3834 (.s 128 R (.k .nil)) (qN R R).o <| p2 R 119 R 129 R (vQ R hb3834) <| qx ?_
            exact qw (.o4 R (.o4 R (.o2 R (.nil _)))) (Kj3819 () (decide (((x17 + (rd t104 x19).fc) + (rd (rd (rd x10 x18) ((rd t104 x19).fto)) x20)) < 0)) h)
           ·refine sk R R R hb3834 <| sk R R R hb3834 <| sk R R R hb3834 <| sk R R R hb3834 <| sk R R R hb3834 <| sk R R R hb3834 <| sk R R R hb3834 <| sk R R R hb3834 <| sk R R R hb3834 <| sk R R R hb3834 <| pk R 119 R (vj R hb3834) <| qx ?_
            exact qw (.o4 R (.o4 R (.o2 R (.nil _)))) (Kj3819 () false h)
         ·refine qZ h R (fun hb3838 h => ?_) (fun hb3838 h => ?_)
          ·refine qJ <| mv R R <| mv R R ?_
           obtain ⟨c3839, h⟩ := qK h
           refine p2 R 98 R 99 R (vX R el160 R c3839.1 c3839.2) <| fd R R fo166_1 R <| ld R R sh3 <| av R R <| qx ?_
           exact qw (.o4 R (.o4 R (.one R (.nil _)))) (Kj3801 () ((rd t104 x19).ffrom) h)
          ·refine qB ?_
           exact qw (.o4 R (.o4 R (.one R (.nil _)))) (Kj3801 () x15 h)
       ·refine qJ <| mv R R <| pk R 84 R (qN R R) <| mv R R ?_
        rcases bif_s h with ⟨hb3840, h⟩ | ⟨hb3840, h⟩
        ·refine wm R R R hb3840 R R <| wm R R R hb3840 R R ?_
         obtain ⟨c3841, h⟩ := qK h
         refine wq R R R hb3840 (.s 87 R (.s 88 R .nil)) (vX R el160 R c3841.1 c3841.2).o <| wf R R R hb3840 R R fo166_1 R <| wl R R R hb3840 R R sh3 <| wm R R R hb3840 R R <| wq R R R hb3840 (.s 91 R (.s 92 R .nil)) (qN R R).o <| p2 R 86 R 93 R (vQ R hb3840) <| qx ?_
         exact qw (.o4 R (.o4 R (.one R (.nil _)))) (Kj3795 () ((rd t104 x19).ffrom != x16) h)
        ·refine sk R R R hb3840 <| sk R R R hb3840 <| sk R R R hb3840 <| sk R R R hb3840 <| sk R R R hb3840 <| sk R R R hb3840 <| sk R R R hb3840 <| pk R 86 R (vj R hb3840) <| qx ?_
         exact qw (.o4 R (.o4 R (.one R (.nil _)))) (Kj3795 () false h)
      ·refine W.exit <| qV <| qV <| vB ?_
       exact qw (.o4 R (.o2 R (.one R (.nil _)))) (Kj3543 g2 x14 x15 x16 x17 h)
    ·refine W.exit <| qV <| qV <| vB <| qw (env' := [(14, _)]) (.one R (.nil _)) <| qq <| sr <| mv R R <| av R R <| ak R <| nt ?_
     refine vq ?_
     cases h
     exact QR.f2 R R (.t R) (.t R) (.tup (.cons (.slc 1 R) (.cons (.id _) .nil)))
theorem ref21_Contradiction.con (k : Nat) (a0 : Types) (a1 : Pattern) (r : ((List Use) × Int)) (h : ref21_Contradiction k a0 a1 = some r) : Con Tryz.prog 17 [] [AggA [SlcA kNodeType a0.fNodes, SlcA kEdgeType a0.fEdges], AggA [SlcA kInt a1.fGraph.fNodes, SlcA kEdge a1.fGraph.fEdges, SlcA kSlot a1.fSlots, iA a1.fVars, SlcA kTest a1.fTests]] (RA (TupA [SlcA kUse r.1, iA r.2])) := by
 unfold ref21_Contradiction at h
 refine vJ (N := 21) Tryz.func17 R R R fun w0_ fg_ => sr <| p1 R 0 R (q_box R (qy _)) <| p1 R 1 R (q_box R (qy _)) <| ak R <| ak R <| nt <| qX <| sr <| lS R R sh35 R R ?_
 refine lS R R sh42 R R ?_
 obtain ⟨t100, ht100, h⟩ := vw h
 refine p2 R 7 R 8 R (vy (f := 19) (A := iA t100) (xs := [.tmp 7, .tmp 8]) («as» := [AggA [SlcA kNodeType a0.fNodes, SlcA kEdgeType a0.fEdges], AggA [SlcA kInt a1.fGraph.fNodes, SlcA kEdge a1.fGraph.fEdges, SlcA kSlot a1.fSlots, iA a1.fVars, SlcA kTest a1.fTests]]) R ca19 (ref21_Valid.con k a0 a1 t100 ht100) R) <| av R R <| qx <| qw (env' := [(6, _), (3, _), (2, _)]) (.o2 R (.one R (.nil _))) <| qq <| sr <| mv R R <| pk R 10 R (qN R R) <| nt ?_
 refine qZ h R (fun hb101 h => ?_) (fun hb101 h => ?_)
 ·refine sr <| mv R R <| ak R <| av R R <| nt <| vq <| qQ ?_
  cases h
  exact QR.f2 R R (.t R) (.t R) (.imp (Imp.tup (.cons (Imp.nil kUse) (.cons (Imp.id _) .nil))))
 ·refine qB <| qq <| qX <| W.drawK [(0, false), (1, false), (2, false), (3, false), (4, false), (5, false), (6, false), (7, false), (8, false), (9, false)] [] (bm [0, 1, 0, 0, 12, 31, 63, 63, 255, 511]) mx (by kernel_rfl) <| df R R R fo42_2 R <| dl R R R sh3 <| qz R R (.p R (.s 2 R .nil) R (q_loadS R sh35 (leB R) R)) <| qz R R (.p R (.s 3 R .nil) R (q_loadS R sh42 (leB R) R)) ?_
  obtain ⟨t106, ht106, h⟩ := vw h
  refine qz R R (.p R (.s 15 R (.s 16 R .nil)) R (vy (f := 48) (A := SlcA kTest t106) (xs := [.tmp 15, .tmp 16]) («as» := [AggA [SlcA kNodeType a0.fNodes, SlcA kEdgeType a0.fEdges], AggA [SlcA kInt a1.fGraph.fNodes, SlcA kEdge a1.fGraph.fEdges, SlcA kSlot a1.fSlots, iA a1.fVars, SlcA kTest a1.fTests]]) R ca48 (ref21_System.con k a0 a1 t106 ht106) R)) ?_
  obtain ⟨t107, ht107, h⟩ := vw h
  refine qz R R (.p R (.s 14 R (.s 17 R .nil)) R (vy (f := 47) (A := TupA [SlcA kUse t107.1, iA t107.2]) (xs := [.tmp 14, .tmp 17]) («as» := [iA a1.fVars, SlcA kTest t106]) R ca47 (ref03_Refute.con k a1.fVars t106 t107 ht107) R)) <| qz R R (.p R (.s 18 R .nil) R (vV R R)) <| qz R R (.p R (.s 18 R .nil) R (vV R R)) <| qz R R (.p R (.s 19 R .nil) R (q_assign R)) <| qz R R (.p R (.s 20 R .nil) R (q_assign R)) <| DK.nil <| CSteps.nil <| qw (env' := [(5, _), (4, _)]) (.o2 R (.nil _)) <| qq <| vq ?_
  cases h
  exact QR.f2 R R (.t R) (.t R) (.id _)
theorem slices_Equal_Use.con (k : Nat) (a0 : (List Use)) (a1 : (List Use)) (r : Bool) (h : slices_Equal_Use k a0 a1 = some r) : Con Tryz.prog 20 [] [SlcA kUse a0, SlcA kUse a1] (RA (bA r)) := by
 unfold slices_Equal_Use at h
 refine vJ (N := 26) Tryz.func20 R R R fun w0_ fg_ => sr <| ak R <| nt <| qX <| sr <| mv R R <| p1 R 6 R (vN R elS45) <| mv R R <| p1 R 8 R (vN R elS45) ?_
 refine p2 R 7 R 9 R (qN R R) <| nt ?_
 refine qZ h R (fun hb100 h => ?_) (fun hb100 h => ?_)
 ·refine sr <| ak R <| qx <| qw (env' := [(4, _)]) (.one R (.nil _)) <| qq <| vq <| qQ ?_
  cases h
  exact vW R R (.t R) (.id _)
 ·refine qB <| qq <| qX <| sr <| mv R R <| p1 R 11 R (vN R elS45) <| mk_ R <| qx <| qw (env' := [(13, _), (12, _), (1, _), (0, _)]) (.o4 R (.nil _)) <| qq <| vx ?_
  refine W.loop1 (Γ := Unit) (fun (_ : Unit) (x13 : Int) => [(0, SlcA kUse a0), (1, SlcA kUse a1), (12, iA (a0.length : Int)), (13, iA x13)]) (fun (_ : Unit) (_ : Int) => []) h () (.o4 R (.nil _)) R (fun rec0 K0 next0 _ x13 h => ?_)
  unfold slices_Equal_Use.b0 at h
  refine sr <| p2 R 13 R 12 R (qN R R) <| nt <| qX ?_
  refine qZ h R (fun hb119 h => ?_) (fun hb119 h => ?_)
  ·refine qB <| qq <| qX <| vx <| sr <| mv R R <| av R R <| nt <| qX <| W.drawK [(0, false), (1, false), (2, false), (3, false), (4, false), (5, false), (6, false), (7, false), (8, false)] [] (bm [0, 0, 3, 7, 0, 0, 48, 112, 255]) mx (by kernel_rfl) <| dm R R R ?_
   refine dm R R R ?_
   obtain ⟨c124, h⟩ := qK h
   refine qz R R (.p R (.s 16 R (.s 17 R .nil)) R (vX R el45 R c124.1 c124.2)) <| qz R R (.p R (.s 18 R .nil) R (q_loadS R sh52 (leB R) R)) <| dm R R R <| dm R R R ?_
   obtain ⟨c125, h⟩ := qK h
   refine qz R R (.p R (.s 20 R (.s 21 R .nil)) R (vX R el45 R c125.1 c125.2)) <| qz R R (.p R (.s 22 R .nil) R (q_loadS R sh52 (leB R) R)) <| qz R R (.p R (.s 19 R (.s 23 R .nil)) R (q_eqIn (ms := [(rd a0 x13).fTest, (rd a0 x13).fSign]) (ns := [(rd a1 x13).fTest, (rd a1 x13).fSign]) R issI_52)) <| DK.nil <| CSteps.nil <| qw (env' := [(24, _), (13, _), (12, _), (1, _), (0, _)]) (.o4 R (.one R (.nil _))) <| qq ?_
   refine qZ h R (fun hb126 h => ?_) (fun hb126 h => ?_)
   ·refine sr <| ak R <| nt <| vq <| vz <| qQ <| qQ <| vz <| qQ ?_
    cases h
    exact vW R R (.t R) (.id _)
   ·refine qB <| vZ <| qq <| qJ ?_
    obtain ⟨c127, h⟩ := qK h
    refine pk R 13 R (vK R c127) <| mv R R <| qx ?_
    exact next0 () (x13 + 1) _ h (.o4 R (.nil _))
  ·refine W.exit <| qV <| qV <| vB <| qq <| sr <| ak R <| nt <| vq ?_
   cases h
   exact vW R R (.t R) (.id _)
theorem law21_AttributeValid.con (k : Nat) (a0 : Types) (a1 : Pattern) (r : Bool) (h : law21_AttributeValid k a0 a1 = some r) : Con Tryz.prog 4 [] [AggA [SlcA kNodeType a0.fNodes, SlcA kEdgeType a0.fEdges], AggA [SlcA kInt a1.fGraph.fNodes, SlcA kEdge a1.fGraph.fEdges, SlcA kSlot a1.fSlots, iA a1.fVars, SlcA kTest a1.fTests]] (RA (bA r)) := by
 unfold law21_AttributeValid at h
 refine vJ (N := 53) Tryz.func4 R R R fun w0_ fg_ => sr <| p1 R 0 R (q_box R (qy _)) <| p1 R 1 R (q_box R (qy _)) <| ak R <| nt <| qX <| qX ?_
 refine W.jn1 (Γ := Unit) (fun (_ : Unit) (x20 : Bool) => [(2, PtrA [SlcA kNodeType a0.fNodes, SlcA kEdgeType a0.fEdges]), (3, PtrA [SlcA kInt a1.fGraph.fNodes, SlcA kEdge a1.fGraph.fEdges, SlcA kSlot a1.fSlots, iA a1.fVars, SlcA kTest a1.fTests]), (20, bA x20)]) (fun (_ : Unit) (_ : Bool) => []) h (fun _ x20 h => ?_) (fun j106 Kj106 h => ?_)
 ·refine qq ?_
  refine qZ h R (fun hb107 h => ?_) (fun hb107 h => ?_)
  ·refine sr ?_
   obtain ⟨t108, ht108, h⟩ := vw h
   refine WL.p R R R .nil (vy (f := 9) (A := bA t108) (xs := []) («as» := []) R ca9 (law21_awake.con k  t108 ht108) R) <| av R R <| nt <| vq <| qQ ?_
   cases h
   exact vW R R (.t R) (.id _)
  ·refine qB <| qq <| qX <| W.drawK [(0, false), (1, false), (2, false), (3, false), (4, false), (5, false), (6, false), (7, false), (8, false)] [] (bm [0, 0, 2, 7, 15, 31, 31, 63, 255]) mx (by kernel_rfl) <| qz R R (.p R (.s 2 R .nil) R (q_loadS R sh35 (leB R) R)) <| qz R R (.p R (.s 3 R .nil) R (q_loadS R sh42 (leB R) R)) ?_
   obtain ⟨t113, ht113, h⟩ := vw h
   refine qz R R (.p R (.s 24 R .nil) R (vy (f := 16) (A := AggA [SlcA kInt t113.fGraph.fNodes, SlcA kEdge t113.fGraph.fEdges, SlcA kSlot t113.fSlots, iA t113.fVars, SlcA kTest t113.fTests]) (xs := [.tmp 24]) («as» := [AggA [SlcA kInt a1.fGraph.fNodes, SlcA kEdge a1.fGraph.fEdges, SlcA kSlot a1.fSlots, iA a1.fVars, SlcA kTest a1.fTests]]) R ca16 (ref21_Copied.con k a1 t113 ht113) R)) ?_
   obtain ⟨t114, ht114, h⟩ := vw h
   refine qz R R (.p R (.s 23 R (.s 25 R .nil)) R (vy (f := 15) (A := TupA [SlcA kUse t114.1, iA t114.2]) (xs := [.tmp 23, .tmp 25]) («as» := [AggA [SlcA kNodeType a0.fNodes, SlcA kEdgeType a0.fEdges], AggA [SlcA kInt t113.fGraph.fNodes, SlcA kEdge t113.fGraph.fEdges, SlcA kSlot t113.fSlots, iA t113.fVars, SlcA kTest t113.fTests]]) R ca15 (attribute_Contradiction.con k a0 t113 t114 ht114) R)) <| dm R R R <| qz R R (.p R (.s 22 R .nil) R (vV R R)) <| qz R R (.p R (.s 22 R .nil) R (vV R R)) <| qz R R (.p R (.s 27 R .nil) R (q_assign R)) <| qz R R (.p R (.s 28 R .nil) R (q_assign R)) <| DK.nil <| CSteps.nil <| qw (env' := [(6, _), (5, _), (3, _), (2, _)]) (.o4 R (.nil _)) <| qq <| sr <| lS R R sh35 R R ?_
   refine lS R R sh42 R R ?_
   obtain ⟨t115, ht115, h⟩ := vw h
   refine p2 R 30 R 31 R (vy (f := 17) (A := TupA [SlcA kUse t115.1, iA t115.2]) (xs := [.tmp 30, .tmp 31]) («as» := [AggA [SlcA kNodeType a0.fNodes, SlcA kEdgeType a0.fEdges], AggA [SlcA kInt a1.fGraph.fNodes, SlcA kEdge a1.fGraph.fEdges, SlcA kSlot a1.fSlots, iA a1.fVars, SlcA kTest a1.fTests]]) R ca17 (ref21_Contradiction.con k a0 a1 t115 ht115) R) <| mv R R <| p1 R 29 R (vV R R) <| p1 R 29 R (vV R R) <| av R R <| av R R <| nt <| qX ?_
   refine W.jn1 (Γ := Unit) (fun (_ : Unit) (x4 : Bool) => [(4, bA x4)]) (fun (_ : Unit) (_ : Bool) => []) h (fun _ x4 h => ?_) (fun j129 Kj129 h => ?_)
   ·refine qq <| vq ?_
    cases h
    exact vW R R (.t R) (.id _)
   ·refine W.drawK [(0, false), (1, false), (2, false), (3, false), (4, false), (5, false), (6, false), (7, false), (8, false), (9, false), (10, false), (11, false), (12, false), (13, false), (14, false), (15, false), (16, false), (17, false), (18, false)] [] (bm [0, 0, 2, 7, 0, 0, 63, 127, 255, 511, 511, 2047, 4095, 8191, 16383, 16383, 65535, 131071, 262143]) mx (by kernel_rfl) <| qz R R (.p R (.s 2 R .nil) R (q_loadS R sh35 (leB R) R)) <| qz R R (.p R (.s 3 R .nil) R (q_loadS R sh42 (leB R) R)) ?_
    obtain ⟨t130, ht130, h⟩ := vw h
    refine qz R R (.p R (.s 36 R .nil) R (vy (f := 16) (A := AggA [SlcA kInt t130.fGraph.fNodes, SlcA kEdge t130.fGraph.fEdges, SlcA kSlot t130.fSlots, iA t130.fVars, SlcA kTest t130.fTests]) (xs := [.tmp 36]) («as» := [AggA [SlcA kInt a1.fGraph.fNodes, SlcA kEdge a1.fGraph.fEdges, SlcA kSlot a1.fSlots, iA a1.fVars, SlcA kTest a1.fTests]]) R ca16 (ref21_Copied.con k a1 t130 ht130) R)) ?_
    obtain ⟨t131, ht131, h⟩ := vw h
    refine qz R R (.p R (.s 35 R (.s 37 R .nil)) R (vy (f := 18) (A := iA t131) (xs := [.tmp 35, .tmp 37]) («as» := [AggA [SlcA kNodeType a0.fNodes, SlcA kEdgeType a0.fEdges], AggA [SlcA kInt t130.fGraph.fNodes, SlcA kEdge t130.fGraph.fEdges, SlcA kSlot t130.fSlots, iA t130.fVars, SlcA kTest t130.fTests]]) R ca18 (attribute_Valid.con k a0 t130 t131 ht131) R)) <| qz R R (.p R (.s 2 R .nil) R (q_loadS R sh35 (leB R) R)) <| qz R R (.p R (.s 3 R .nil) R (q_loadS R sh42 (leB R) R)) ?_
    obtain ⟨t132, ht132, h⟩ := vw h
    refine qz R R (.p R (.s 39 R (.s 40 R .nil)) R (vy (f := 19) (A := iA t132) (xs := [.tmp 39, .tmp 40]) («as» := [AggA [SlcA kNodeType a0.fNodes, SlcA kEdgeType a0.fEdges], AggA [SlcA kInt a1.fGraph.fNodes, SlcA kEdge a1.fGraph.fEdges, SlcA kSlot a1.fSlots, iA a1.fVars, SlcA kTest a1.fTests]]) R ca19 (ref21_Valid.con k a0 a1 t132 ht132) R)) <| qz R R (.p R (.s 38 R (.s 41 R .nil)) R (qN R R)) <| dm R R R ?_
    rcases bif_s h with ⟨hb133, h⟩ | ⟨hb133, h⟩
    ·refine qz R R (.gp R R R hb133 (.s 6 R .nil) R (q_move R)) <| qz R R (.gp R R R hb133 (.s 8 R .nil) R (q_move R)) <| qz R R (.gp R R R hb133 (.s 44 R (.s 45 R .nil)) R (qN R R)) <| qz R R (.p R (.s 43 R (.s 46 R .nil)) R (vQ R hb133)) <| dm R R R ?_
     rcases bif_s h with ⟨hb134, h⟩ | ⟨hb134, h⟩
     ·refine qz R R (.gp R R R hb134 (.s 5 R .nil) R (q_move R)) <| qz R R (.gp R R R hb134 (.s 7 R .nil) R (q_move R)) ?_
      obtain ⟨t135, ht135, h⟩ := vw h
      refine qz R R (.gp R R R hb134 (.s 49 R (.s 50 R .nil)) R (vy (f := 20) (A := bA t135) (xs := [.tmp 49, .tmp 50]) («as» := [SlcA kUse t114.1, SlcA kUse t115.1]) R ca20 (slices_Equal_Use.con k t114.1 t115.1 t135 ht135) R)) <| qz R R (.p R (.s 48 R (.s 51 R .nil)) R (vQ R hb134)) <| qz R R (.p R (.s 52 R .nil) R (q_assign R)) <| DK.nil <| CSteps.nil ?_
      exact qw (.one R (.nil _)) (Kj129 () t135 h)
     ·refine dx R R R hb134 <| dx R R R hb134 <| dx R R R hb134 <| qz R R (.p R (.s 48 R (.k .nil)) R (vj R hb134)) <| qz R R (.p R (.s 52 R .nil) R (q_assign R)) <| DK.nil <| CSteps.nil ?_
      exact qw (.one R (.nil _)) (Kj129 () false h)
    ·refine dx R R R hb133 <| dx R R R hb133 <| dx R R R hb133 <| qz R R (.p R (.s 43 R (.k .nil)) R (vj R hb133)) <| dm R R R <| dx R R R R <| dx R R R R <| dx R R R R <| qz R R (.p R (.s 48 R (.k .nil)) R (vj R R)) <| qz R R (.p R (.s 52 R .nil) R (q_assign R)) <| DK.nil <| CSteps.nil ?_
     exact qw (.one R (.nil _)) (Kj129 () false h)
 ·refine qJ ?_
  obtain ⟨t136, ht136, h⟩ := vw h
  refine WL.p R R R .nil (vy (f := 9) (A := bA t136) (xs := []) («as» := []) R ca9 (law21_awake.con k  t136 ht136) R) <| p1 R 9 R (q_not R) <| mv R R ?_
  rcases bif_s h with ⟨hb137, h⟩ | ⟨hb137, h⟩
  ·refine sk R R R hb137 <| sk R R R hb137 <| sk R R R hb137 <| pk R 11 R (vQ R hb137) <| mv R R <| sk R R R R <| sk R R R R <| sk R R R R <| pk R 16 R (vQ R R) <| qx ?_
   exact qw (.o2 R (.one R (.nil _))) (Kj106 () true h)
  ·refine wq R R R hb137 (.s 2 R .nil) (q_loadS R sh35 (leB R) R).o ?_
   obtain ⟨t138, ht138, h⟩ := vw h
   refine wq R R R hb137 (.s 12 R .nil) (vy (f := 13) (A := bA t138) (xs := [.tmp 12]) («as» := [AggA [SlcA kNodeType a0.fNodes, SlcA kEdgeType a0.fEdges]]) R ca13 (ref04_Few.con k a0 t138 ht138) R).o <| wq R R R hb137 (.s 13 R .nil) (q_not R).o <| p2 R 11 R 14 R (vj R hb137) <| mv R R ?_
   rcases bif_s h with ⟨hb139, h⟩ | ⟨hb139, h⟩
   ·refine sk R R R hb139 <| sk R R R hb139 <| sk R R R hb139 <| pk R 16 R (vQ R hb139) <| qx ?_
    exact qw (.o2 R (.one R (.nil _))) (Kj106 () true h)
   ·refine wq R R R hb139 (.s 3 R .nil) (q_loadS R sh42 (leB R) R).o ?_
    obtain ⟨t140, ht140, h⟩ := vw h
    refine wq R R R hb139 (.s 17 R .nil) (vy (f := 14) (A := bA t140) (xs := [.tmp 17]) («as» := [AggA [SlcA kInt a1.fGraph.fNodes, SlcA kEdge a1.fGraph.fEdges, SlcA kSlot a1.fSlots, iA a1.fVars, SlcA kTest a1.fTests]]) R ca14 (ref21_Few.con k a1 t140 ht140) R).o <| wq R R R hb139 (.s 18 R .nil) (q_not R).o <| p2 R 16 R 19 R (vj R hb139) <| qx ?_
    exact qw (.o2 R (.one R (.nil _))) (Kj106 () (!t140) h)
end Go.Proofs.YtcgdfjpeboiioaaGreat
