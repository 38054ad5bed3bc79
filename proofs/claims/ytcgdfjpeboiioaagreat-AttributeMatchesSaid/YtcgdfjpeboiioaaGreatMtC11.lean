import Derived.Test.YtcgdfjpeboiioaaGreatMtC10
namespace Go.Proofs.YtcgdfjpeboiioaaGreat
open Go Go.Abs
attribute [local irreducible] Tryz.prog
theorem ref17_search_used.con (k : Nat) (a0 : Search) (a1 : (List Int)) (a2 : Int) (r : Bool) (h : ref17_search_used k a0 a1 a2 = some r) : Con Tryz.prog 194 [] [PtrA [SlcA kNodeType a0.ft.fNodes, SlcA kEdgeType a0.ft.fEdges, SlcA kInt a0.fp.fNodes, SlcA kEdge a0.fp.fEdges, SlcA kInt a0.fg.fNodes, SlcA kEdge a0.fg.fEdges, SlcA kInt a0.fpartial.fNodes, SlcA kInt a0.fpartial.fEdges, bA a0.finjective, iA a0.fmost, SlcA kMorphism a0.ffound], SlcA kInt a1, iA a2] (RA (bA r)) := by
 unfold ref17_search_used at h
 refine vZ (N := 26) Tryz.func194 R R R fun w0_ fg_ => sr <| ak R <| nt <| qX <| sr <| ak R <| nt <| vy ?_
 refine W.loop1 (Γ := Unit) (fun (_ : Unit) (x7 : Int) => [(0, PtrA [SlcA kNodeType a0.ft.fNodes, SlcA kEdgeType a0.ft.fEdges, SlcA kInt a0.fp.fNodes, SlcA kEdge a0.fp.fEdges, SlcA kInt a0.fg.fNodes, SlcA kEdge a0.fg.fEdges, SlcA kInt a0.fpartial.fNodes, SlcA kInt a0.fpartial.fEdges, bA a0.finjective, iA a0.fmost, SlcA kMorphism a0.ffound]), (1, SlcA kInt a1), (2, iA a2), (7, iA x7)]) (fun (_ : Unit) (_ : Int) => []) h () (.o4 R (.nil _)) R (fun rec0 K0 next0 _ x7 h => ?_)
 unfold ref17_search_used.b0 at h
 refine qX <| qX ?_
 refine W.jn1 (Γ := Unit) (fun (_ : Unit) (x17 : Bool) => [(0, PtrA [SlcA kNodeType a0.ft.fNodes, SlcA kEdgeType a0.ft.fEdges, SlcA kInt a0.fp.fNodes, SlcA kEdge a0.fp.fEdges, SlcA kInt a0.fg.fNodes, SlcA kEdge a0.fg.fEdges, SlcA kInt a0.fpartial.fNodes, SlcA kInt a0.fpartial.fEdges, bA a0.finjective, iA a0.fmost, SlcA kMorphism a0.ffound]), (1, SlcA kInt a1), (2, iA a2), (7, iA x7), (17, bA x17)]) (fun (_ : Unit) (_ : Bool) => []) h (fun _ x17 h => ?_) (fun j118 Kj118 h => ?_)
 ·refine qq ?_
  refine qZ h R (fun hb119 h => ?_) (fun hb119 h => ?_)
  ·refine qK <| qq <| qX <| vy <| sr <| mv R R <| mv R R ?_
   obtain ⟨c120, h⟩ := qV h
   refine p2 R 20 R 21 R (vX R el26 R c120.1 c120.2) <| ld R R sh3 <| mv R R <| p2 R 23 R 24 R (qB R R) <| nt ?_
   refine qZ h R (fun hb121 h => ?_) (fun hb121 h => ?_)
   ·refine sr <| ak R <| qz <| qw (env' := [(6, _)]) (.one R (.nil _)) <| qq <| vq <| vj <| qy <| qy <| vj <| qy ?_
    cases h
    exact vW R R (.t R) (.id _)
   ·refine qK <| vJ <| qw (env' := [(7, _), (2, _), (1, _), (0, _)]) (.o4 R (.nil _)) <| qq <| qJ <| mv R R ?_
    obtain ⟨c122, h⟩ := qV h
    refine pk R 18 R (vV R c122) <| av R R <| qz ?_
    exact next0 () (x7 + 1) _ h (.o4 R (.nil _))
  ·refine bz <| qN <| qN <| bq <| qq <| sr <| ak R <| nt <| vq ?_
   cases h
   exact vW R R (.t R) (.id _)
 ·refine qJ <| mv R R <| mv R R <| p1 R 9 R (vB R elS26) <| p2 R 8 R 10 R (qB R R) <| mv R R ?_
  rcases bif_s h with ⟨hb123, h⟩ | ⟨hb123, h⟩
  ·refine wm R R R hb123 R R <| wq R R R hb123 (.s 13 R .nil) (q_nilCheck R).o <| wf R R R hb123 R R fo218_4 R <| wl R R R hb123 R R sh4 <| p2 R 12 R 16 R (vz R hb123) <| qz ?_
   exact qw (.o4 R (.one R (.nil _))) (Kj118 () a0.finjective h)
  ·refine sk R R R hb123 <| sk R R R hb123 <| sk R R R hb123 <| sk R R R hb123 <| pk R 12 R (vw R hb123) <| qz ?_
   exact qw (.o4 R (.one R (.nil _))) (Kj118 () false h)
theorem ref17_search_edges.con : ∀ (k : Nat) (b : Nat) (w0 : Value) (a0 : Search) (a1 : (List Int)) (a2 : (List Int)) (r : (List Morphism)) (_ : ref17_search_edges k a0 a1 a2 = some r), Con Tryz.prog 193 [BoxE b [SlcA kNodeType a0.ft.fNodes, SlcA kEdgeType a0.ft.fEdges, SlcA kInt a0.fp.fNodes, SlcA kEdge a0.fp.fEdges, SlcA kInt a0.fg.fNodes, SlcA kEdge a0.fg.fEdges, SlcA kInt a0.fpartial.fNodes, SlcA kInt a0.fpartial.fEdges, bA a0.finjective, iA a0.fmost, HdA w0], SlE 64 w0 kMorphism a0.ffound] [EqA (.pointer (some ⟨b, 0, none⟩)), SlcA kInt a1, SlcA kInt a2] (fun O' A => ∃ u0, O' = [BoxE b [SlcA kNodeType a0.ft.fNodes, SlcA kEdgeType a0.ft.fEdges, SlcA kInt a0.fp.fNodes, SlcA kEdge a0.fp.fEdges, SlcA kInt a0.fg.fNodes, SlcA kEdge a0.fg.fEdges, SlcA kInt a0.fpartial.fNodes, SlcA kInt a0.fpartial.fEdges, bA a0.finjective, iA a0.fmost, HdA u0], SlE 64 u0 kMorphism r] ∧ A = TupA []) := by
 intro k
 induction k with
 | zero => intro b w0 a0 a1 a2 r h; cases h
 | succ k ih =>
  intro b w0 a0 a1 a2 r h
  change ref17_search_edges.main (ref17_search_edges k) k a0 a1 a2 = some r at h
  unfold ref17_search_edges.main at h
  refine vZ (N := 135) Tryz.func193 R R R fun w0_ fg_ => qX <| qX <| W.drawK [(0, false), (1, false), (2, false), (3, true), (4, true), (5, false), (6, false), (7, false), (8, true), (9, false)] [] (bm [0, 1, 3, 7, 15, 0, 32, 96, 224, 511]) mx (by kernel_rfl) <| dm R R R <| qx R R (.p R (.s 10 R .nil) R (vN R)) <| qx R R (.p R (.s 11 R .nil) R (bw R fo218_6)) <| qx R R (.o R (.s 12 R .nil) R (q_loadB R sh133 (i := 0) R R)) <| qx R R (.o R (.s 13 R .nil) R (q_lenO R elS133 (i := 1) R)) <| dm R R R <| qx R R (.p R (.s 15 R .nil) R (vN R)) <| qx R R (.p R (.s 16 R .nil) R (bw R fo218_5)) <| qx R R (.o R (.s 17 R .nil) R (q_loadB R sh3 (i := 0) R R)) ?_
  refine qx R R (.p R (.s 14 R (.s 18 R .nil)) R (qB R R)) <| DK.nil <| CSteps.nil <| qw (env' := [(19, _), (2, _), (1, _), (0, _)]) (.o4 R (.nil _)) <| qq ?_
  refine qZ h R (fun hb100 h => ?_) (fun hb100 h => ?_)
  ·refine vq <| qy ?_
   cases h
   exact QR.f0 R ⟨w0, R, R⟩
  ·refine qK <| qq <| sr <| mv R R <| p1 R 20 R (vB R elS26) <| av R R <| nt <| qX <| sr <| mv R R ?_
   refine mv R R <| p1 R 23 R (vN R) <| p1 R 24 R (bw R fo218_1) <| p1 R 25 R (bw R fo38_1) <| WL.q (qQ R) R R (.s 26 R .nil) (q_loadB R sh36 (i := 0) R R) <| p1 R 27 R (vB R elS36) <| p2 R 22 R 28 R (qB R R) <| qz <| qw (env' := [(29, _), (6, _), (2, _), (1, _), (0, _)]) (.o4 R (.one R (.nil _))) <| qq ?_
   refine qZ h R (fun hb101 h => ?_) (fun hb101 h => ?_)
   ·refine qX <| W.drawK [(0, false), (1, false), (2, false), (3, false), (4, true), (5, false), (6, false), (7, false), (8, false), (9, false), (10, false), (11, false), (12, false)] [13, 14, 15, 16] (bm [0, 0, 2, 6, 14, 0, 0, 96, 0, 0, 992, 2016, 4064, 8190, 16383, 32767, 65535]) mx (by kernel_rfl) <| dm R R R <| dm R R R <| qx R R (.p R (.s 31 R .nil) R (vN R)) <| qx R R (.p R (.s 32 R .nil) R (bw R fo218_6)) <| qx R R (.o R (.s 33 R .nil) R (q_loadB R sh133 (i := 0) R R)) <| qx R R (.p R .nil R (q_lit0 R el26 gr3)) <| dm R R R ?_
    obtain ⟨c110, h⟩ := qV h
    refine qx R R (.p R (.s 35 R (.s 36 R .nil)) R (QS.of_new (w_appendZ (kd := kInt) R el26 R gr3 c110))) <| qx R R (.p R .nil R (q_lit0 R el26 gr3)) <| dm R R R ?_
    obtain ⟨c111, h⟩ := qV h
    refine qx R R (.p R (.s 38 R (.s 39 R .nil)) R (QS.of_new (w_appendZ (kd := kInt) R el26 R gr3 c111))) <| qx R R (.p R (.s 37 R (.s 40 R .nil)) R (q_build (is := [0, 1]) (xs := [.tmp 37, .tmp 40]) (L := [SlcA kInt a1, SlcA kInt a2]) R R z64 pl64 R R (.cons (qW R) (.cons (qW R) .nil)) R)) <| qx R R (.p R (.s 41 R .nil) R (q_lit (kd := kMorphism) (ps := [(0, .tmp 41)]) (xs := [.tmp 41]) («as» := [AggA [SlcA kInt a1, SlcA kInt a2]]) (ys := [(Morphism.mk a1 a2)]) R R el133 R gr64 R R R (.cons (qj _) .nil))) ?_
    obtain ⟨c112, h⟩ := qV h
    refine DK.nil <| CSteps.w [1] R R R R (.s 34 R (.s 42 R .nil)) R (w_append (kd := kMorphism) R el133 R gr64 c112) ?_
    rintro _ _ ⟨v113, rfl, rfl⟩
    refine CSteps.p R R R (.s 30 R .nil) R (vN R) <| CSteps.p R R R (.s 44 R .nil) R (bw R fo218_6) <| CSteps.w0 [1] R R R (.s 45 R (.s 43 R .nil)) R (w_store (L := [SlcA kNodeType a0.ft.fNodes, SlcA kEdgeType a0.ft.fEdges, SlcA kInt a0.fp.fNodes, SlcA kEdge a0.fp.fEdges, SlcA kInt a0.fg.fNodes, SlcA kEdge a0.fg.fEdges, SlcA kInt a0.fpartial.fNodes, SlcA kInt a0.fpartial.fEdges, bA a0.finjective, iA a0.fmost, HdA v113]) R sh133 (qW R) R R (leB R) R) ?_
    rintro _ _ ⟨rfl, rfl⟩
    refine CSteps.nil <| qw (env' := [(0, _)]) (.one R (.nil _)) <| qq <| vq <| qy ?_
    cases h
    exact QR.f0 R ⟨v113, R, R⟩
   ·refine qK <| qq <| sr <| mv R R <| p1 R 46 R (vN R) <| p1 R 47 R (bw R fo218_1) <| p1 R 48 R (bw R fo38_1) <| WL.q (qQ R) R R (.s 49 R .nil) (q_loadB R sh36 (i := 0) R R) <| mv R R ?_
    obtain ⟨c114, h⟩ := qV h
    refine p2 R 50 R 51 R (vX R el36 R c114.1 c114.2) <| lS R R sh109 R R <| WL.w [] R (qQ R) R R .nil (w_alloc R z109 (l := [iA 0, iA 0, iA 0]) R) ?_
    rintro _ _ ⟨b115, rfl, rfl⟩
    refine WL.w0 [0] R (qQ R) R (.s 7 R (.s 53 R .nil)) (w_store (L := [iA ((rd a0.fp.fEdges (a2.length : Int)).fType), iA ((rd a0.fp.fEdges (a2.length : Int)).fFrom), iA ((rd a0.fp.fEdges (a2.length : Int)).fTo)]) R sh109 (qj _) R R (leB R) R) ?_
    rintro _ _ ⟨rfl, rfl⟩
    refine qz <| QN.to (StTo.still [0] 7 R R) <| qw (env' := [(7, _), (6, _), (2, _), (1, _), (0, _)]) (.o4 R (.one R (.nil _))) <| qq <| sr <| ak R <| nt <| vy ?_
    refine W.loop2 (Γ := Value) (fun (_ : Value) (_ : (List Morphism)) (x8 : Int) => [(0, EqA (.pointer (some ⟨b, 0, none⟩))), (1, SlcA kInt a1), (2, SlcA kInt a2), (6, iA (a2.length : Int)), (7, PtrA [iA ((rd a0.fp.fEdges (a2.length : Int)).fType), iA ((rd a0.fp.fEdges (a2.length : Int)).fFrom), iA ((rd a0.fp.fEdges (a2.length : Int)).fTo)]), (8, iA x8)]) (fun (g0 : Value) (y10 : (List Morphism)) (_ : Int) => [BoxE b [SlcA kNodeType a0.ft.fNodes, SlcA kEdgeType a0.ft.fEdges, SlcA kInt a0.fp.fNodes, SlcA kEdge a0.fp.fEdges, SlcA kInt a0.fg.fNodes, SlcA kEdge a0.fg.fEdges, SlcA kInt a0.fpartial.fNodes, SlcA kInt a0.fpartial.fEdges, bA a0.finjective, iA a0.fmost, HdA g0], SlE 64 g0 kMorphism y10]) h w0 (.o4 R (.o2 R (.nil _))) R (fun rec0 K0 next0 g0 y10 x8 h => ?_)
    unfold ref17_search_edges.b0 at h
    refine qX <| sr <| mv R R <| mv R R <| p1 R 55 R (vN R) <| p1 R 56 R (bw R fo218_2) <| p1 R 57 R (bw R fo38_1) <| WL.q (qQ R) R R (.s 58 R .nil) (q_loadB R sh36 (i := 0) R R) <| p1 R 59 R (vB R elS36) <| p2 R 54 R 60 R (qB R R) <| qz <| qw (env' := [(61, _), (8, _), (7, _), (6, _), (2, _), (1, _), (0, _)]) (.o4 R (.o2 R (.one R (.nil _)))) ?_
    refine qq ?_
    refine qZ h R (fun hb362 h => ?_) (fun hb362 h => ?_)
    ·refine qK <| qq <| qX <| vy <| sr <| mv R R <| p1 R 64 R (vN R) <| p1 R 65 R (bw R fo218_2) <| p1 R 66 R (bw R fo38_1) <| WL.q (qQ R) R R (.s 67 R .nil) (q_loadB R sh36 (i := 0) R R) <| mv R R ?_
     obtain ⟨c422, h⟩ := qV h
     refine p2 R 68 R 69 R (vX R el36 R c422.1 c422.2) <| lS R R sh109 R R <| WL.w [] R (qQ R) R R .nil (w_alloc R z109 (l := [iA 0, iA 0, iA 0]) R) ?_
     rintro _ _ ⟨b423, rfl, rfl⟩
     refine WL.w0 [0] R (qQ R) R (.s 9 R (.s 71 R .nil)) (w_store (L := [iA ((rd a0.fg.fEdges x8).fType), iA ((rd a0.fg.fEdges x8).fFrom), iA ((rd a0.fg.fEdges x8).fTo)]) R sh109 (qj _) R R (leB R) R) ?_
     rintro _ _ ⟨rfl, rfl⟩
     refine qz <| QN.to (StTo.still [0] 9 R R) <| qw (env' := [(9, _), (8, _), (7, _), (6, _), (2, _), (1, _), (0, _)]) (.o4 R (.o2 R (.one R (.nil _)))) <| qq <| qX <| qX ?_
     refine W.jn1 (Γ := Unit) (fun (_ : Unit) (x125 : Bool) => [(0, EqA (.pointer (some ⟨b, 0, none⟩))), (1, SlcA kInt a1), (2, SlcA kInt a2), (6, iA (a2.length : Int)), (7, PtrA [iA ((rd a0.fp.fEdges (a2.length : Int)).fType), iA ((rd a0.fp.fEdges (a2.length : Int)).fFrom), iA ((rd a0.fp.fEdges (a2.length : Int)).fTo)]), (8, iA x8), (125, bA x125)]) (fun (_ : Unit) (_ : Bool) => [BoxE b [SlcA kNodeType a0.ft.fNodes, SlcA kEdgeType a0.ft.fEdges, SlcA kInt a0.fp.fNodes, SlcA kEdge a0.fp.fEdges, SlcA kInt a0.fg.fNodes, SlcA kEdge a0.fg.fEdges, SlcA kInt a0.fpartial.fNodes, SlcA kInt a0.fpartial.fEdges, bA a0.finjective, iA a0.fmost, HdA g0], SlE 64 g0 kMorphism y10]) h (fun _ x125 h => ?_) (fun j457 Kj457 h => ?_)
     ·refine qq ?_
      refine qZ h R (fun hb458 h => ?_) (fun hb458 h => ?_)
      ·refine bz <| qN <| bq <| qq <| qJ <| mv R R ?_
       obtain ⟨c459, h⟩ := qV h
       refine pk R 62 R (vV R c459) <| av R R <| qz ?_
       exact next0 g0 y10 (x8 + 1) _ h (.o4 R (.o2 R (.nil _)))
      ·refine qK <| qq <| qJ <| mv R R <| mv R R <| WL.p R R R .nil (q_lit0 R el26 gr3) <| mv R R ?_
       obtain ⟨c460, h⟩ := qV h
       refine WL.w [] R (qQ R) R R (.s 128 R (.s 129 R .nil)) (w_appendZ (kd := kInt) R el26 R gr3 c460) ?_
       rintro _ _ ⟨v461, rfl, rfl⟩
       refine mv R R <| p1 R 131 R (q_lit (kd := kInt) (ps := [(0, .tmp 131)]) (xs := [.tmp 131]) («as» := [iA x8]) (ys := [x8]) R R el26 R gr3 R R R (.cons (qW R) .nil)) ?_
       obtain ⟨c462, h⟩ := qV h
       refine WL.w [0] R (qQ R) R R (.s 130 R (.s 132 R .nil)) (w_append (kd := kInt) R el26 R gr3 c462) ?_
       rintro _ _ ⟨v463, rfl, rfl⟩
       obtain ⟨t464, ht464, h⟩ := vx h
       refine WL.to (StTo.freeze [0] 133 R R) <| WL.w [0, 0] R (qQ R) R R (.s 126 R (.s 127 R (.s 133 R .nil))) (w_callI (f := 193) (xs := [.tmp 126, .tmp 127, .tmp 133]) («as» := [EqA (.pointer (some ⟨b, 0, none⟩)), SlcA kInt a1, SlcA kInt (a2 ++ [x8])]) R ca193 (ih b g0 (Search.mk a0.ft a0.fp a0.fg a0.fpartial a0.finjective a0.fmost y10) a1 (a2 ++ [x8]) t464 ht464) R (.cons (Imp.id _) (.cons (Imp.id _) (.cons (Imp.id _) .nil)))) ?_
       rintro _ _ ⟨v465, rfl, rfl⟩
       refine qz <| vJ <| qw (env' := [(8, _), (7, _), (6, _), (2, _), (1, _), (0, _)]) (.o4 R (.o2 R (.nil _))) <| qq <| qJ <| mv R R ?_
       obtain ⟨c466, h⟩ := qV h
       refine pk R 62 R (vV R c466) <| av R R <| qz ?_
       exact next0 v465 t464 (x8 + 1) _ h (.o4 R (.o2 R (.nil _)))
     ·refine W.drawK [(0, false), (1, false), (2, false), (3, false), (4, true), (5, false), (6, false), (7, false), (8, false), (9, false), (10, false), (11, false), (12, false), (13, false), (14, true), (15, false), (16, false), (17, false), (18, false), (19, false), (20, false), (21, false), (22, false), (23, false), (24, false), (25, true), (26, false), (27, false), (28, false), (29, false), (30, false), (31, false), (32, false), (33, false), (34, false), (35, false), (36, false), (37, false), (38, false), (39, false), (40, false), (41, false), (42, false), (43, false), (44, false), (45, false), (46, false), (47, false), (48, false), (49, false), (50, false), (51, false), (52, false), (53, false)] [] (bm [0, 1, 3, 7, 15, 0, 63, 127, 255, 511, 1023, 2047, 4095, 8191, 16383, 1023, 65535, 131071, 1023, 524287, 1048575, 2097151, 4194303, 4194303, 4194303, 33554431, 67108863, 134217727, 268435455, 536870911, 268435455, 1342177279, 4294967295, 8589934591, 17179869183, 34359738367, 68719476735, 34359738367, 34359738367, 309237645311, 996432412671, 2095944040447, 4398046511103, 8796093022207, 17592186044415, 35184372088831, 70368744177663, 35184372088831, 35184372088831, 316659348799487, 1020346790576127, 2146246697418751, 4503599627370495, 9007199254740991]) mx (by kernel_rfl) <| dm R R R <| qx R R (.p R (.s 72 R .nil) R (vN R)) <| qx R R (.p R (.s 73 R .nil) R (bw R fo218_3)) <| qx R R (.p R (.s 74 R .nil) R (bw R fo64_1)) <| qx R R (.o R (.s 75 R .nil) R (q_loadB R sh26 (i := 0) R R)) <| dm R R R ?_
      obtain ⟨c467, h⟩ := qV h
      refine qx R R (.p R (.s 76 R (.s 77 R .nil)) R (vX R el26 R c467.1 c467.2)) <| dl R R R sh3 <| qx R R (.p R (.s 79 R (.k .nil)) R (qB R R)) <| dm R R R ?_
      rcases bif_s h with ⟨hb468, h⟩ | ⟨hb468, h⟩
      ·refine qx R R (.gp R R R hb468 (.s 0 R .nil) R (q_move R)) <| qx R R (.gp R R R hb468 (.s 82 R .nil) R (vN R)) <| qx R R (.gp R R R hb468 (.s 83 R .nil) R (bw R fo218_3)) <| qx R R (.gp R R R hb468 (.s 84 R .nil) R (bw R fo64_1)) <| qx R R (.go R R R hb468 (.s 85 R .nil) R (q_loadB R sh26 (i := 0) R R)) <| qx R R (.gp R R R hb468 (.s 6 R .nil) R (q_move R)) ?_
       obtain ⟨c469, h⟩ := qV h
       refine qx R R (.gp R R R hb468 (.s 86 R (.s 87 R .nil)) R (vX R el26 R c469.1 c469.2)) <| qx R R (.gp R R R hb468 (.s 88 R .nil) R (q_load R sh3)) <| qx R R (.gp R R R hb468 (.s 8 R .nil) R (q_move R)) <| qx R R (.gp R R R hb468 (.s 89 R (.s 90 R .nil)) R (qB R R)) <| qx R R (.p R (.s 81 R (.s 91 R .nil)) R (vz R hb468)) <| dm R R R ?_
       rcases bif_s h with ⟨hb470, h⟩ | ⟨hb470, h⟩
       ·refine dx R R R hb470 <| dx R R R hb470 <| dx R R R hb470 <| dx R R R hb470 <| qx R R (.p R (.s 93 R (.k .nil)) R (vz R hb470)) <| dm R R R <| dx R R R R <| dx R R R R <| dx R R R R <| dx R R R R <| dx R R R R <| qx R R (.p R (.s 99 R (.k .nil)) R (vz R R)) <| dm R R R ?_
        refine dx R R R R <| dx R R R R <| dx R R R R <| dx R R R R <| dx R R R R <| dx R R R R <| dx R R R R <| dx R R R R <| qx R R (.p R (.s 106 R (.k .nil)) R (vz R R)) <| dm R R R <| dx R R R R <| dx R R R R <| dx R R R R ?_
        refine dx R R R R <| dx R R R R <| dx R R R R <| dx R R R R <| dx R R R R <| qx R R (.p R (.s 116 R (.k .nil)) R (vz R R)) <| DK.nil <| CSteps.nil ?_
        exact qw (.o4 R (.o2 R (.one R (.nil _)))) (Kj457 () true h)
       ·refine qx R R (.gp R R R hb470 (.s 0 R .nil) R (q_move R)) <| qx R R (.gp R R R hb470 (.s 2 R .nil) R (q_move R)) <| qx R R (.gp R R R hb470 (.s 8 R .nil) R (q_move R)) ?_
        obtain ⟨t471, ht471, h⟩ := vx h
        refine qx R R (.go R R R hb470 (.s 94 R (.s 95 R (.s 96 R .nil))) R (q_lend (f := 194) (A := bA t471) (xs := [.tmp 94, .tmp 95, .tmp 96]) («as» := [EqA (.pointer (some ⟨b, 0, none⟩)), SlcA kInt a2, iA x8]) R ca194 (ref17_search_used.con k (Search.mk a0.ft a0.fp a0.fg a0.fpartial a0.finjective a0.fmost y10) a2 x8 t471 ht471) R (.cons (.box 0 R (.cons (.id _) (.cons (.id _) (.cons (.id _) (.cons (.id _) (.cons (.id _) (.cons (.id _) (.cons (.id _) (.cons (.id _) (.cons (.id _) (.cons (.id _) (.cons (.slc 1 R) .nil)))))))))))) (.cons (.id _) (.cons (.id _) .nil))) (Flat.eq _))) <| qx R R (.p R (.s 93 R (.s 97 R .nil)) R (vw R hb470)) <| dm R R R ?_
        rcases bif_s h with ⟨hb472, h⟩ | ⟨hb472, h⟩
        ·refine dx R R R hb472 <| dx R R R hb472 <| dx R R R hb472 <| dx R R R hb472 <| dx R R R hb472 <| qx R R (.p R (.s 99 R (.k .nil)) R (vz R hb472)) <| dm R R R <| dx R R R R <| dx R R R R <| dx R R R R <| dx R R R R <| dx R R R R <| dx R R R R ?_
         refine dx R R R R <| dx R R R R <| qx R R (.p R (.s 106 R (.k .nil)) R (vz R R)) <| dm R R R <| dx R R R R <| dx R R R R <| dx R R R R <| dx R R R R <| dx R R R R <| dx R R R R <| dx R R R R <| dx R R R R <| qx R R (.p R (.s 116 R (.k .nil)) R (vz R R)) ?_
         refine DK.nil <| CSteps.nil ?_
         exact qw (.o4 R (.o2 R (.one R (.nil _)))) (Kj457 () true h)
        ·refine qx R R (.gp R R R hb472 (.s 7 R .nil) R (q_field R fo109_0 R)) <| qx R R (.gp R R R hb472 (.s 100 R .nil) R (q_load R sh3)) <| qx R R (.gp R R R hb472 (.s 9 R .nil) R (q_field R fo109_0 R)) <| qx R R (.gp R R R hb472 (.s 102 R .nil) R (q_load R sh3)) <| qx R R (.gp R R R hb472 (.s 101 R (.s 103 R .nil)) R (qB R R)) <| qx R R (.p R (.s 99 R (.s 104 R .nil)) R (vw R hb472)) <| dm R R R ?_
         rcases bif_s h with ⟨hb473, h⟩ | ⟨hb473, h⟩
         ·refine dx R R R hb473 <| dx R R R hb473 <| dx R R R hb473 <| dx R R R hb473 <| dx R R R hb473 <| dx R R R hb473 <| dx R R R hb473 <| dx R R R hb473 <| qx R R (.p R (.s 106 R (.k .nil)) R (vz R hb473)) <| dm R R R <| dx R R R R <| dx R R R R <| dx R R R R ?_
          refine dx R R R R <| dx R R R R <| dx R R R R <| dx R R R R <| dx R R R R <| qx R R (.p R (.s 116 R (.k .nil)) R (vz R R)) <| DK.nil <| CSteps.nil ?_
          exact qw (.o4 R (.o2 R (.one R (.nil _)))) (Kj457 () true h)
         ·refine qx R R (.gp R R R hb473 (.s 9 R .nil) R (q_field R fo109_1 R)) <| qx R R (.gp R R R hb473 (.s 107 R .nil) R (q_load R sh3)) <| qx R R (.gp R R R hb473 (.s 1 R .nil) R (q_move R)) <| qx R R (.gp R R R hb473 (.s 7 R .nil) R (q_field R fo109_1 R)) <| qx R R (.gp R R R hb473 (.s 110 R .nil) R (q_load R sh3)) ?_
          obtain ⟨c474, h⟩ := qV h
          refine qx R R (.gp R R R hb473 (.s 109 R (.s 111 R .nil)) R (vX R el26 R c474.1 c474.2)) <| qx R R (.gp R R R hb473 (.s 112 R .nil) R (q_load R sh3)) <| qx R R (.gp R R R hb473 (.s 108 R (.s 113 R .nil)) R (qB R R)) <| qx R R (.p R (.s 106 R (.s 114 R .nil)) R (vw R hb473)) <| dm R R R ?_
          rcases bif_s h with ⟨hb475, h⟩ | ⟨hb475, h⟩
          ·refine dx R R R hb475 <| dx R R R hb475 <| dx R R R hb475 <| dx R R R hb475 <| dx R R R hb475 <| dx R R R hb475 <| dx R R R hb475 <| dx R R R hb475 <| qx R R (.p R (.s 116 R (.k .nil)) R (vz R hb475)) <| DK.nil <| CSteps.nil ?_
           exact qw (.o4 R (.o2 R (.one R (.nil _)))) (Kj457 () true h)
          ·refine qx R R (.gp R R R hb475 (.s 9 R .nil) R (q_field R fo109_2 R)) <| qx R R (.gp R R R hb475 (.s 117 R .nil) R (q_load R sh3)) <| qx R R (.gp R R R hb475 (.s 1 R .nil) R (q_move R)) <| qx R R (.gp R R R hb475 (.s 7 R .nil) R (q_field R fo109_2 R)) <| qx R R (.gp R R R hb475 (.s 120 R .nil) R (q_load R sh3)) ?_
           obtain ⟨c476, h⟩ := qV h
           refine qx R R (.gp R R R hb475 (.s 119 R (.s 121 R .nil)) R (vX R el26 R c476.1 c476.2)) <| qx R R (.gp R R R hb475 (.s 122 R .nil) R (q_load R sh3)) <| qx R R (.gp R R R hb475 (.s 118 R (.s 123 R .nil)) R (qB R R)) <| qx R R (.p R (.s 116 R (.s 124 R .nil)) R (vw R hb475)) <| DK.nil <| CSteps.nil ?_
           exact qw (.o4 R (.o2 R (.one R (.nil _)))) (Kj457 () ((rd a0.fg.fEdges x8).fTo != (rd a1 ((rd a0.fp.fEdges (a2.length : Int)).fTo))) h)
      ·refine dx R R R hb468 <| dx R R R hb468 <| dx R R R hb468 <| dx R R R hb468 <| dx R R R hb468 <| dx R R R hb468 <| dx R R R hb468 <| dx R R R hb468 <| dx R R R hb468 <| dx R R R hb468 <| qx R R (.p R (.s 81 R (.k .nil)) R (vw R hb468)) <| dm R R R <| qx R R (.gp R R R R (.s 0 R .nil) R (q_move R)) ?_
       refine qx R R (.gp R R R R (.s 2 R .nil) R (q_move R)) <| qx R R (.gp R R R R (.s 8 R .nil) R (q_move R)) ?_
       obtain ⟨t477, ht477, h⟩ := vx h
       refine qx R R (.go R R R R (.s 94 R (.s 95 R (.s 96 R .nil))) R (q_lend (f := 194) (A := bA t477) (xs := [.tmp 94, .tmp 95, .tmp 96]) («as» := [EqA (.pointer (some ⟨b, 0, none⟩)), SlcA kInt a2, iA x8]) R ca194 (ref17_search_used.con k (Search.mk a0.ft a0.fp a0.fg a0.fpartial a0.finjective a0.fmost y10) a2 x8 t477 ht477) R (.cons (.box 0 R (.cons (.id _) (.cons (.id _) (.cons (.id _) (.cons (.id _) (.cons (.id _) (.cons (.id _) (.cons (.id _) (.cons (.id _) (.cons (.id _) (.cons (.id _) (.cons (.slc 1 R) .nil)))))))))))) (.cons (.id _) (.cons (.id _) .nil))) (Flat.eq _))) <| qx R R (.p R (.s 93 R (.s 97 R .nil)) R (vw R R)) <| dm R R R ?_
       rcases bif_s h with ⟨hb478, h⟩ | ⟨hb478, h⟩
       ·refine dx R R R hb478 <| dx R R R hb478 <| dx R R R hb478 <| dx R R R hb478 <| dx R R R hb478 <| qx R R (.p R (.s 99 R (.k .nil)) R (vz R hb478)) <| dm R R R <| dx R R R R <| dx R R R R <| dx R R R R <| dx R R R R <| dx R R R R <| dx R R R R ?_
        refine dx R R R R <| dx R R R R <| qx R R (.p R (.s 106 R (.k .nil)) R (vz R R)) <| dm R R R <| dx R R R R <| dx R R R R <| dx R R R R <| dx R R R R <| dx R R R R <| dx R R R R <| dx R R R R <| dx R R R R <| qx R R (.p R (.s 116 R (.k .nil)) R (vz R R)) ?_
        refine DK.nil <| CSteps.nil ?_
        exact qw (.o4 R (.o2 R (.one R (.nil _)))) (Kj457 () true h)
       ·refine qx R R (.gp R R R hb478 (.s 7 R .nil) R (q_field R fo109_0 R)) <| qx R R (.gp R R R hb478 (.s 100 R .nil) R (q_load R sh3)) <| qx R R (.gp R R R hb478 (.s 9 R .nil) R (q_field R fo109_0 R)) <| qx R R (.gp R R R hb478 (.s 102 R .nil) R (q_load R sh3)) <| qx R R (.gp R R R hb478 (.s 101 R (.s 103 R .nil)) R (qB R R)) <| qx R R (.p R (.s 99 R (.s 104 R .nil)) R (vw R hb478)) <| dm R R R ?_
        rcases bif_s h with ⟨hb479, h⟩ | ⟨hb479, h⟩
        ·refine dx R R R hb479 <| dx R R R hb479 <| dx R R R hb479 <| dx R R R hb479 <| dx R R R hb479 <| dx R R R hb479 <| dx R R R hb479 <| dx R R R hb479 <| qx R R (.p R (.s 106 R (.k .nil)) R (vz R hb479)) <| dm R R R <| dx R R R R <| dx R R R R <| dx R R R R ?_
         refine dx R R R R <| dx R R R R <| dx R R R R <| dx R R R R <| dx R R R R <| qx R R (.p R (.s 116 R (.k .nil)) R (vz R R)) <| DK.nil <| CSteps.nil ?_
         exact qw (.o4 R (.o2 R (.one R (.nil _)))) (Kj457 () true h)
        ·refine qx R R (.gp R R R hb479 (.s 9 R .nil) R (q_field R fo109_1 R)) <| qx R R (.gp R R R hb479 (.s 107 R .nil) R (q_load R sh3)) <| qx R R (.gp R R R hb479 (.s 1 R .nil) R (q_move R)) <| qx R R (.gp R R R hb479 (.s 7 R .nil) R (q_field R fo109_1 R)) <| qx R R (.gp R R R hb479 (.s 110 R .nil) R (q_load R sh3)) ?_
         obtain ⟨c480, h⟩ := qV h
         refine qx R R (.gp R R R hb479 (.s 109 R (.s 111 R .nil)) R (vX R el26 R c480.1 c480.2)) <| qx R R (.gp R R R hb479 (.s 112 R .nil) R (q_load R sh3)) <| qx R R (.gp R R R hb479 (.s 108 R (.s 113 R .nil)) R (qB R R)) <| qx R R (.p R (.s 106 R (.s 114 R .nil)) R (vw R hb479)) <| dm R R R ?_
         rcases bif_s h with ⟨hb481, h⟩ | ⟨hb481, h⟩
         ·refine dx R R R hb481 <| dx R R R hb481 <| dx R R R hb481 <| dx R R R hb481 <| dx R R R hb481 <| dx R R R hb481 <| dx R R R hb481 <| dx R R R hb481 <| qx R R (.p R (.s 116 R (.k .nil)) R (vz R hb481)) <| DK.nil <| CSteps.nil ?_
          exact qw (.o4 R (.o2 R (.one R (.nil _)))) (Kj457 () true h)
         ·refine qx R R (.gp R R R hb481 (.s 9 R .nil) R (q_field R fo109_2 R)) <| qx R R (.gp R R R hb481 (.s 117 R .nil) R (q_load R sh3)) <| qx R R (.gp R R R hb481 (.s 1 R .nil) R (q_move R)) <| qx R R (.gp R R R hb481 (.s 7 R .nil) R (q_field R fo109_2 R)) <| qx R R (.gp R R R hb481 (.s 120 R .nil) R (q_load R sh3)) ?_
          obtain ⟨c482, h⟩ := qV h
          refine qx R R (.gp R R R hb481 (.s 119 R (.s 121 R .nil)) R (vX R el26 R c482.1 c482.2)) <| qx R R (.gp R R R hb481 (.s 122 R .nil) R (q_load R sh3)) <| qx R R (.gp R R R hb481 (.s 118 R (.s 123 R .nil)) R (qB R R)) <| qx R R (.p R (.s 116 R (.s 124 R .nil)) R (vw R hb481)) <| DK.nil <| CSteps.nil ?_
          exact qw (.o4 R (.o2 R (.one R (.nil _)))) (Kj457 () ((rd a0.fg.fEdges x8).fTo != (rd a1 ((rd a0.fp.fEdges (a2.length : Int)).fTo))) h)
    ·refine bz <| qN <| qN <| bq ?_
     cases h
     exact QN.f0 R R ⟨g0, R, R⟩
theorem ref17_search_nodes.con : ∀ (k : Nat) (b : Nat) (w0 : Value) (a0 : Search) (a1 : (List Int)) (r : (List Morphism)) (_ : ref17_search_nodes k a0 a1 = some r), Con Tryz.prog 171 [BoxE b [SlcA kNodeType a0.ft.fNodes, SlcA kEdgeType a0.ft.fEdges, SlcA kInt a0.fp.fNodes, SlcA kEdge a0.fp.fEdges, SlcA kInt a0.fg.fNodes, SlcA kEdge a0.fg.fEdges, SlcA kInt a0.fpartial.fNodes, SlcA kInt a0.fpartial.fEdges, bA a0.finjective, iA a0.fmost, HdA w0], SlE 64 w0 kMorphism a0.ffound] [EqA (.pointer (some ⟨b, 0, none⟩)), SlcA kInt a1] (fun O' A => ∃ u0, O' = [BoxE b [SlcA kNodeType a0.ft.fNodes, SlcA kEdgeType a0.ft.fEdges, SlcA kInt a0.fp.fNodes, SlcA kEdge a0.fp.fEdges, SlcA kInt a0.fg.fNodes, SlcA kEdge a0.fg.fEdges, SlcA kInt a0.fpartial.fNodes, SlcA kInt a0.fpartial.fEdges, bA a0.finjective, iA a0.fmost, HdA u0], SlE 64 u0 kMorphism r] ∧ A = TupA []) := by
 intro k
 induction k with
 | zero => intro b w0 a0 a1 r h; cases h
 | succ k ih =>
  intro b w0 a0 a1 r h
  change ref17_search_nodes.main (ref17_search_nodes k) k a0 a1 = some r at h
  unfold ref17_search_nodes.main at h
  refine vZ (N := 104) Tryz.func171 R R R fun w0_ fg_ => qX <| qX ?_
  refine W.jn1 (Γ := Unit) (fun (_ : Unit) (x21 : Bool) => [(0, EqA (.pointer (some ⟨b, 0, none⟩))), (1, SlcA kInt a1), (21, bA x21)]) (fun (_ : Unit) (_ : Bool) => [BoxE b [SlcA kNodeType a0.ft.fNodes, SlcA kEdgeType a0.ft.fEdges, SlcA kInt a0.fp.fNodes, SlcA kEdge a0.fp.fEdges, SlcA kInt a0.fg.fNodes, SlcA kEdge a0.fg.fEdges, SlcA kInt a0.fpartial.fNodes, SlcA kInt a0.fpartial.fEdges, bA a0.finjective, iA a0.fmost, HdA w0], SlE 64 w0 kMorphism a0.ffound]) h (fun _ x21 h => ?_) (fun j105 Kj105 h => ?_)
  ·refine qq ?_
   refine qZ h R (fun hb106 h => ?_) (fun hb106 h => ?_)
   ·refine vq <| qy ?_
    cases h
    exact QR.f0 R ⟨w0, R, R⟩
   ·refine qK <| qq <| sr <| mv R R <| p1 R 22 R (vB R elS26) <| av R R <| nt <| qX <| sr <| mv R R ?_
    refine mv R R <| p1 R 25 R (vN R) <| p1 R 26 R (bw R fo218_1) <| p1 R 27 R (bw R fo38_0) <| WL.q (qQ R) R R (.s 28 R .nil) (q_loadB R sh26 (i := 0) R R) <| p1 R 29 R (vB R elS26) <| p2 R 24 R 30 R (qB R R) <| qz <| qw (env' := [(31, _), (4, _), (1, _), (0, _)]) (.o4 R (.nil _)) <| qq ?_
    refine qZ h R (fun hb107 h => ?_) (fun hb107 h => ?_)
    ·refine sr <| mv R R <| mv R R ?_
     obtain ⟨t108, ht108, h⟩ := vx h
     refine WL.w [0, 0] R (qQ R) R R (.s 32 R (.s 33 R (.k .nil))) (w_callI (f := 193) (xs := [.tmp 32, .tmp 33, .const (.slice none 0 0)]) («as» := [EqA (.pointer (some ⟨b, 0, none⟩)), SlcA kInt a1, EqA (.slice none 0 0)]) R ca193 (ref17_search_edges.con k b w0 (Search.mk a0.ft a0.fp a0.fg a0.fpartial a0.finjective a0.fmost a0.ffound) a1 [] t108 ht108) R (.cons (Imp.id _) (.cons (Imp.id _) (.cons (Imp.nil kInt) .nil)))) ?_
     rintro _ _ ⟨v109, rfl, rfl⟩
     refine nt <| vq <| qy ?_
     cases h
     exact QR.f0 R ⟨v109, R, R⟩
    ·refine qK <| qq <| sr <| ak R <| nt <| vy ?_
     refine W.loop2 (Γ := Value) (fun (_ : Value) (_ : (List Morphism)) (x5 : Int) => [(0, EqA (.pointer (some ⟨b, 0, none⟩))), (1, SlcA kInt a1), (4, iA (a1.length : Int)), (5, iA x5)]) (fun (g0 : Value) (y10 : (List Morphism)) (_ : Int) => [BoxE b [SlcA kNodeType a0.ft.fNodes, SlcA kEdgeType a0.ft.fEdges, SlcA kInt a0.fp.fNodes, SlcA kEdge a0.fp.fEdges, SlcA kInt a0.fg.fNodes, SlcA kEdge a0.fg.fEdges, SlcA kInt a0.fpartial.fNodes, SlcA kInt a0.fpartial.fEdges, bA a0.finjective, iA a0.fmost, HdA g0], SlE 64 g0 kMorphism y10]) h w0 (.o4 R (.nil _)) R (fun rec0 K0 next0 g0 y10 x5 h => ?_)
     unfold ref17_search_nodes.b0 at h
     refine qX <| sr <| mv R R <| mv R R <| p1 R 36 R (vN R) <| p1 R 37 R (bw R fo218_2) <| p1 R 38 R (bw R fo38_0) <| WL.q (qQ R) R R (.s 39 R .nil) (q_loadB R sh26 (i := 0) R R) <| p1 R 40 R (vB R elS26) <| p2 R 35 R 41 R (qB R R) <| qz <| qw (env' := [(42, _), (5, _), (4, _), (1, _), (0, _)]) (.o4 R (.one R (.nil _))) ?_
     refine qq ?_
     refine qZ h R (fun hb324 h => ?_) (fun hb324 h => ?_)
     ·refine qK <| qq <| qX <| vy <| qX <| qX ?_
      refine W.jn1 (Γ := Unit) (fun (_ : Unit) (x95 : Bool) => [(0, EqA (.pointer (some ⟨b, 0, none⟩))), (1, SlcA kInt a1), (4, iA (a1.length : Int)), (5, iA x5), (95, bA x95)]) (fun (_ : Unit) (_ : Bool) => [BoxE b [SlcA kNodeType a0.ft.fNodes, SlcA kEdgeType a0.ft.fEdges, SlcA kInt a0.fp.fNodes, SlcA kEdge a0.fp.fEdges, SlcA kInt a0.fg.fNodes, SlcA kEdge a0.fg.fEdges, SlcA kInt a0.fpartial.fNodes, SlcA kInt a0.fpartial.fEdges, bA a0.finjective, iA a0.fmost, HdA g0], SlE 64 g0 kMorphism y10]) h (fun _ x95 h => ?_) (fun j405 Kj405 h => ?_)
      ·refine qq ?_
       refine qZ h R (fun hb406 h => ?_) (fun hb406 h => ?_)
       ·refine bz <| qN <| bq <| qq <| qJ <| mv R R ?_
        obtain ⟨c407, h⟩ := qV h
        refine pk R 43 R (vV R c407) <| av R R <| qz ?_
        exact next0 g0 y10 (x5 + 1) _ h (.o4 R (.nil _))
       ·refine qK <| qq <| qJ <| mv R R <| WL.p R R R .nil (q_lit0 R el26 gr3) <| mv R R ?_
        obtain ⟨c408, h⟩ := qV h
        refine WL.w [] R (qQ R) R R (.s 97 R (.s 98 R .nil)) (w_appendZ (kd := kInt) R el26 R gr3 c408) ?_
        rintro _ _ ⟨v409, rfl, rfl⟩
        refine mv R R <| p1 R 100 R (q_lit (kd := kInt) (ps := [(0, .tmp 100)]) (xs := [.tmp 100]) («as» := [iA x5]) (ys := [x5]) R R el26 R gr3 R R R (.cons (qW R) .nil)) ?_
        obtain ⟨c410, h⟩ := qV h
        refine WL.w [0] R (qQ R) R R (.s 99 R (.s 101 R .nil)) (w_append (kd := kInt) R el26 R gr3 c410) ?_
        rintro _ _ ⟨v411, rfl, rfl⟩
        obtain ⟨t412, ht412, h⟩ := vx h
        refine WL.to (StTo.freeze [0] 102 R R) <| WL.w [0, 0] R (qQ R) R R (.s 96 R (.s 102 R .nil)) (w_callI (f := 171) (xs := [.tmp 96, .tmp 102]) («as» := [EqA (.pointer (some ⟨b, 0, none⟩)), SlcA kInt (a1 ++ [x5])]) R ca171 (ih b g0 (Search.mk a0.ft a0.fp a0.fg a0.fpartial a0.finjective a0.fmost y10) (a1 ++ [x5]) t412 ht412) R (.cons (Imp.id _) (.cons (Imp.id _) .nil))) ?_
        rintro _ _ ⟨v413, rfl, rfl⟩
        refine qz <| vJ <| qw (env' := [(5, _), (4, _), (1, _), (0, _)]) (.o4 R (.nil _)) <| qq <| qJ <| mv R R ?_
        obtain ⟨c414, h⟩ := qV h
        refine pk R 43 R (vV R c414) <| av R R <| qz ?_
        exact next0 v413 t412 (x5 + 1) _ h (.o4 R (.nil _))
      ·refine W.drawK [(0, false), (1, false), (2, false), (3, false), (4, true), (5, false), (6, false), (7, false), (8, false), (9, false), (10, false), (11, false), (12, false), (13, false), (14, true), (15, false), (16, false), (17, false), (18, false), (19, false), (20, false), (21, false), (22, false), (23, false), (24, false), (25, true), (26, false), (27, false), (28, false), (29, false), (30, false), (31, true), (32, false), (33, false), (34, false), (35, false), (36, true), (37, false), (38, false), (39, false), (40, false), (41, false), (42, false), (43, false), (44, true), (45, false), (46, false), (47, false), (48, false), (49, false), (50, false)] [] (bm [0, 1, 3, 7, 15, 0, 63, 127, 255, 511, 1023, 2047, 4095, 8191, 16383, 1023, 65535, 131071, 1023, 524287, 1048575, 2097151, 4194303, 4194303, 4194303, 33554431, 67108863, 134217727, 268435455, 536870911, 1073741823, 2147483647, 268435455, 4563402751, 13153337343, 30333206527, 64692944895, 268435455, 270851375103, 545729282047, 268435455, 1099780063231, 3298803318783, 7696849829887, 16492942852095, 268435455, 69269500985343, 139638245163007, 281474976710655, 562949953421311, 1125899906842623]) mx (by kernel_rfl) <| dm R R R <| qx R R (.p R (.s 45 R .nil) R (vN R)) <| qx R R (.p R (.s 46 R .nil) R (bw R fo218_3)) <| qx R R (.p R (.s 47 R .nil) R (bw R fo64_0)) <| qx R R (.o R (.s 48 R .nil) R (q_loadB R sh26 (i := 0) R R)) <| dm R R R ?_
       obtain ⟨c415, h⟩ := qV h
       refine qx R R (.p R (.s 49 R (.s 50 R .nil)) R (vX R el26 R c415.1 c415.2)) <| dl R R R sh3 <| qx R R (.p R (.s 52 R (.k .nil)) R (qB R R)) <| dm R R R ?_
       rcases bif_s h with ⟨hb416, h⟩ | ⟨hb416, h⟩
       ·refine qx R R (.gp R R R hb416 (.s 0 R .nil) R (q_move R)) <| qx R R (.gp R R R hb416 (.s 55 R .nil) R (vN R)) <| qx R R (.gp R R R hb416 (.s 56 R .nil) R (bw R fo218_3)) <| qx R R (.gp R R R hb416 (.s 57 R .nil) R (bw R fo64_0)) <| qx R R (.go R R R hb416 (.s 58 R .nil) R (q_loadB R sh26 (i := 0) R R)) <| qx R R (.gp R R R hb416 (.s 4 R .nil) R (q_move R)) ?_
        obtain ⟨c417, h⟩ := qV h
        refine qx R R (.gp R R R hb416 (.s 59 R (.s 60 R .nil)) R (vX R el26 R c417.1 c417.2)) <| qx R R (.gp R R R hb416 (.s 61 R .nil) R (q_load R sh3)) <| qx R R (.gp R R R hb416 (.s 5 R .nil) R (q_move R)) <| qx R R (.gp R R R hb416 (.s 62 R (.s 63 R .nil)) R (qB R R)) <| qx R R (.p R (.s 54 R (.s 64 R .nil)) R (vz R hb416)) <| dm R R R ?_
        rcases bif_s h with ⟨hb418, h⟩ | ⟨hb418, h⟩
        ·refine dx R R R hb418 <| dx R R R hb418 <| dx R R R hb418 <| dx R R R hb418 <| qx R R (.p R (.s 66 R (.k .nil)) R (vz R hb418)) <| dm R R R <| dx R R R R <| dx R R R R <| dx R R R R <| dx R R R R <| dx R R R R <| dx R R R R <| dx R R R R ?_
         refine dx R R R R <| dx R R R R <| dx R R R R <| dx R R R R <| dx R R R R <| dx R R R R <| dx R R R R <| dx R R R R <| dx R R R R <| dx R R R R <| dx R R R R <| dx R R R R <| dx R R R R ?_
         refine dx R R R R <| dx R R R R <| qx R R (.p R (.s 72 R (.k .nil)) R (vz R R)) <| DK.nil <| CSteps.nil ?_
         exact qw (.o4 R (.one R (.nil _))) (Kj405 () true h)
        ·refine qx R R (.gp R R R hb418 (.s 0 R .nil) R (q_move R)) <| qx R R (.gp R R R hb418 (.s 1 R .nil) R (q_move R)) <| qx R R (.gp R R R hb418 (.s 5 R .nil) R (q_move R)) ?_
         obtain ⟨t419, ht419, h⟩ := vx h
         refine qx R R (.go R R R hb418 (.s 67 R (.s 68 R (.s 69 R .nil))) R (q_lend (f := 194) (A := bA t419) (xs := [.tmp 67, .tmp 68, .tmp 69]) («as» := [EqA (.pointer (some ⟨b, 0, none⟩)), SlcA kInt a1, iA x5]) R ca194 (ref17_search_used.con k (Search.mk a0.ft a0.fp a0.fg a0.fpartial a0.finjective a0.fmost y10) a1 x5 t419 ht419) R (.cons (.box 0 R (.cons (.id _) (.cons (.id _) (.cons (.id _) (.cons (.id _) (.cons (.id _) (.cons (.id _) (.cons (.id _) (.cons (.id _) (.cons (.id _) (.cons (.id _) (.cons (.slc 1 R) .nil)))))))))))) (.cons (.id _) (.cons (.id _) .nil))) (Flat.eq _))) <| qx R R (.p R (.s 66 R (.s 70 R .nil)) R (vw R hb418)) <| dm R R R ?_
         rcases bif_s h with ⟨hb420, h⟩ | ⟨hb420, h⟩
         ·refine dx R R R hb420 <| dx R R R hb420 <| dx R R R hb420 <| dx R R R hb420 <| dx R R R hb420 <| dx R R R hb420 <| dx R R R hb420 <| dx R R R hb420 <| dx R R R hb420 <| dx R R R hb420 <| dx R R R hb420 <| dx R R R hb420 <| dx R R R hb420 ?_
          refine dx R R R hb420 <| dx R R R hb420 <| dx R R R hb420 <| dx R R R hb420 <| dx R R R hb420 <| dx R R R hb420 <| dx R R R hb420 <| dx R R R hb420 <| dx R R R hb420 <| qx R R (.p R (.s 72 R (.k .nil)) R (vz R hb420)) <| DK.nil <| CSteps.nil ?_
          exact qw (.o4 R (.one R (.nil _))) (Kj405 () true h)
         ·refine qx R R (.gp R R R hb420 (.s 0 R .nil) R (q_move R)) <| qx R R (.gp R R R hb420 (.s 73 R .nil) R (vN R)) <| qx R R (.gp R R R hb420 (.s 74 R .nil) R (bw R fo218_0)) <| qx R R (.go R R R hb420 (.s 75 R .nil) R (q_loadBS (l' := [SlcA kNodeType a0.ft.fNodes, SlcA kEdgeType a0.ft.fEdges]) R sh35 (i := 0) R R R)) <| qx R R (.gp R R R hb420 (.s 0 R .nil) R (q_move R)) <| qx R R (.gp R R R hb420 (.s 77 R .nil) R (vN R)) <| qx R R (.gp R R R hb420 (.s 78 R .nil) R (bw R fo218_2)) <| qx R R (.gp R R R hb420 (.s 79 R .nil) R (bw R fo38_0)) <| qx R R (.go R R R hb420 (.s 80 R .nil) R (q_loadB R sh26 (i := 0) R R)) <| qx R R (.gp R R R hb420 (.s 5 R .nil) R (q_move R)) ?_
          obtain ⟨c421, h⟩ := qV h
          refine qx R R (.gp R R R hb420 (.s 81 R (.s 82 R .nil)) R (vX R el26 R c421.1 c421.2)) <| qx R R (.gp R R R hb420 (.s 83 R .nil) R (q_load R sh3)) <| qx R R (.gp R R R hb420 (.s 0 R .nil) R (q_move R)) <| qx R R (.gp R R R hb420 (.s 85 R .nil) R (vN R)) <| qx R R (.gp R R R hb420 (.s 86 R .nil) R (bw R fo218_1)) <| qx R R (.gp R R R hb420 (.s 87 R .nil) R (bw R fo38_0)) <| qx R R (.go R R R hb420 (.s 88 R .nil) R (q_loadB R sh26 (i := 0) R R)) <| qx R R (.gp R R R hb420 (.s 4 R .nil) R (q_move R)) ?_
          obtain ⟨c422, h⟩ := qV h
          refine qx R R (.gp R R R hb420 (.s 89 R (.s 90 R .nil)) R (vX R el26 R c422.1 c422.2)) <| qx R R (.gp R R R hb420 (.s 91 R .nil) R (q_load R sh3)) ?_
          obtain ⟨t423, ht423, h⟩ := vx h
          refine qx R R (.gp R R R hb420 (.s 76 R (.s 84 R (.s 92 R .nil))) R (vQ (f := 141) (A := bA t423) (xs := [.tmp 76, .tmp 84, .tmp 92]) («as» := [AggA [SlcA kNodeType a0.ft.fNodes, SlcA kEdgeType a0.ft.fEdges], iA (rd a0.fg.fNodes x5), iA (rd a0.fp.fNodes (a1.length : Int))]) R ca141 (ref04_Below1.con k a0.ft (rd a0.fg.fNodes x5) (rd a0.fp.fNodes (a1.length : Int)) t423 ht423) R)) <| qx R R (.gp R R R hb420 (.s 93 R .nil) R (q_not R)) <| qx R R (.p R (.s 72 R (.s 94 R .nil)) R (vw R hb420)) <| DK.nil <| CSteps.nil ?_
          exact qw (.o4 R (.one R (.nil _))) (Kj405 () (!t423) h)
       ·refine dx R R R hb416 <| dx R R R hb416 <| dx R R R hb416 <| dx R R R hb416 <| dx R R R hb416 <| dx R R R hb416 <| dx R R R hb416 <| dx R R R hb416 <| dx R R R hb416 <| dx R R R hb416 <| qx R R (.p R (.s 54 R (.k .nil)) R (vw R hb416)) <| dm R R R <| qx R R (.gp R R R R (.s 0 R .nil) R (q_move R)) ?_
        refine qx R R (.gp R R R R (.s 1 R .nil) R (q_move R)) <| qx R R (.gp R R R R (.s 5 R .nil) R (q_move R)) ?_
        obtain ⟨t424, ht424, h⟩ := vx h
        refine qx R R (.go R R R R (.s 67 R (.s 68 R (.s 69 R .nil))) R (q_lend (f := 194) (A := bA t424) (xs := [.tmp 67, .tmp 68, .tmp 69]) («as» := [EqA (.pointer (some ⟨b, 0, none⟩)), SlcA kInt a1, iA x5]) R ca194 (ref17_search_used.con k (Search.mk a0.ft a0.fp a0.fg a0.fpartial a0.finjective a0.fmost y10) a1 x5 t424 ht424) R (.cons (.box 0 R (.cons (.id _) (.cons (.id _) (.cons (.id _) (.cons (.id _) (.cons (.id _) (.cons (.id _) (.cons (.id _) (.cons (.id _) (.cons (.id _) (.cons (.id _) (.cons (.slc 1 R) .nil)))))))))))) (.cons (.id _) (.cons (.id _) .nil))) (Flat.eq _))) <| qx R R (.p R (.s 66 R (.s 70 R .nil)) R (vw R R)) <| dm R R R ?_
        rcases bif_s h with ⟨hb425, h⟩ | ⟨hb425, h⟩
        ·refine dx R R R hb425 <| dx R R R hb425 <| dx R R R hb425 <| dx R R R hb425 <| dx R R R hb425 <| dx R R R hb425 <| dx R R R hb425 <| dx R R R hb425 <| dx R R R hb425 <| dx R R R hb425 <| dx R R R hb425 <| dx R R R hb425 <| dx R R R hb425 ?_
         refine dx R R R hb425 <| dx R R R hb425 <| dx R R R hb425 <| dx R R R hb425 <| dx R R R hb425 <| dx R R R hb425 <| dx R R R hb425 <| dx R R R hb425 <| dx R R R hb425 <| qx R R (.p R (.s 72 R (.k .nil)) R (vz R hb425)) <| DK.nil <| CSteps.nil ?_
         exact qw (.o4 R (.one R (.nil _))) (Kj405 () true h)
        ·refine qx R R (.gp R R R hb425 (.s 0 R .nil) R (q_move R)) <| qx R R (.gp R R R hb425 (.s 73 R .nil) R (vN R)) <| qx R R (.gp R R R hb425 (.s 74 R .nil) R (bw R fo218_0)) <| qx R R (.go R R R hb425 (.s 75 R .nil) R (q_loadBS (l' := [SlcA kNodeType a0.ft.fNodes, SlcA kEdgeType a0.ft.fEdges]) R sh35 (i := 0) R R R)) <| qx R R (.gp R R R hb425 (.s 0 R .nil) R (q_move R)) <| qx R R (.gp R R R hb425 (.s 77 R .nil) R (vN R)) <| qx R R (.gp R R R hb425 (.s 78 R .nil) R (bw R fo218_2)) <| qx R R (.gp R R R hb425 (.s 79 R .nil) R (bw R fo38_0)) <| qx R R (.go R R R hb425 (.s 80 R .nil) R (q_loadB R sh26 (i := 0) R R)) <| qx R R (.gp R R R hb425 (.s 5 R .nil) R (q_move R)) ?_
         obtain ⟨c426, h⟩ := qV h
         refine qx R R (.gp R R R hb425 (.s 81 R (.s 82 R .nil)) R (vX R el26 R c426.1 c426.2)) <| qx R R (.gp R R R hb425 (.s 83 R .nil) R (q_load R sh3)) <| qx R R (.gp R R R hb425 (.s 0 R .nil) R (q_move R)) <| qx R R (.gp R R R hb425 (.s 85 R .nil) R (vN R)) <| qx R R (.gp R R R hb425 (.s 86 R .nil) R (bw R fo218_1)) <| qx R R (.gp R R R hb425 (.s 87 R .nil) R (bw R fo38_0)) <| qx R R (.go R R R hb425 (.s 88 R .nil) R (q_loadB R sh26 (i := 0) R R)) <| qx R R (.gp R R R hb425 (.s 4 R .nil) R (q_move R)) ?_
         obtain ⟨c427, h⟩ := qV h
         refine qx R R (.gp R R R hb425 (.s 89 R (.s 90 R .nil)) R (vX R el26 R c427.1 c427.2)) <| qx R R (.gp R R R hb425 (.s 91 R .nil) R (q_load R sh3)) ?_
         obtain ⟨t428, ht428, h⟩ := vx h
         refine qx R R (.gp R R R hb425 (.s 76 R (.s 84 R (.s 92 R .nil))) R (vQ (f := 141) (A := bA t428) (xs := [.tmp 76, .tmp 84, .tmp 92]) («as» := [AggA [SlcA kNodeType a0.ft.fNodes, SlcA kEdgeType a0.ft.fEdges], iA (rd a0.fg.fNodes x5), iA (rd a0.fp.fNodes (a1.length : Int))]) R ca141 (ref04_Below1.con k a0.ft (rd a0.fg.fNodes x5) (rd a0.fp.fNodes (a1.length : Int)) t428 ht428) R)) <| qx R R (.gp R R R hb425 (.s 93 R .nil) R (q_not R)) <| qx R R (.p R (.s 72 R (.s 94 R .nil)) R (vw R hb425)) <| DK.nil <| CSteps.nil ?_
         exact qw (.o4 R (.one R (.nil _))) (Kj405 () (!t428) h)
     ·refine bz <| qN <| qN <| bq ?_
      cases h
      exact QN.f0 R R ⟨g0, R, R⟩
  ·refine W.drawK [(0, false), (1, false), (2, false), (3, true), (4, true), (5, false), (6, false), (7, false), (8, true), (9, false), (10, false), (11, false), (12, false), (13, true), (14, false), (15, false)] [] (bm [0, 1, 3, 7, 15, 0, 32, 96, 224, 511, 1023, 2047, 2047, 8191, 16383, 32767]) mx (by kernel_rfl) <| dm R R R <| qx R R (.p R (.s 6 R .nil) R (vN R)) <| qx R R (.p R (.s 7 R .nil) R (bw R fo218_6)) <| qx R R (.o R (.s 8 R .nil) R (q_loadB R sh133 (i := 0) R R)) <| qx R R (.o R (.s 9 R .nil) R (q_lenO R elS133 (i := 1) R)) <| dm R R R <| qx R R (.p R (.s 11 R .nil) R (vN R)) <| qx R R (.p R (.s 12 R .nil) R (bw R fo218_5)) <| qx R R (.o R (.s 13 R .nil) R (q_loadB R sh3 (i := 0) R R)) <| qx R R (.p R (.s 10 R (.s 14 R .nil)) R (qB R R)) <| dm R R R ?_
   rcases bif_s h with ⟨hb429, h⟩ | ⟨hb429, h⟩
   ·refine dx R R R hb429 <| dx R R R hb429 <| dx R R R hb429 <| dx R R R hb429 <| qx R R (.p R (.s 16 R (.k .nil)) R (vz R hb429)) <| DK.nil <| CSteps.nil ?_
    exact qw (.o2 R (.one R (.nil _))) (Kj105 () true h)
   ·refine qx R R (.gp R R R hb429 (.s 0 R .nil) R (q_move R)) <| qx R R (.gp R R R hb429 (.s 1 R .nil) R (q_move R)) ?_
    obtain ⟨t430, ht430, h⟩ := vx h
    refine qx R R (.go R R R hb429 (.s 17 R (.s 18 R .nil)) R (q_lend (f := 192) (A := bA t430) (xs := [.tmp 17, .tmp 18]) («as» := [EqA (.pointer (some ⟨b, 0, none⟩)), SlcA kInt a1]) R ca192 (ref17_search_fits.con k a0 a1 t430 ht430) R (.cons (.box 0 R (.cons (.id _) (.cons (.id _) (.cons (.id _) (.cons (.id _) (.cons (.id _) (.cons (.id _) (.cons (.id _) (.cons (.id _) (.cons (.id _) (.cons (.id _) (.cons (.slc 1 R) .nil)))))))))))) (.cons (.id _) .nil)) (Flat.eq _))) <| qx R R (.gp R R R hb429 (.s 19 R .nil) R (q_not R)) <| qx R R (.p R (.s 16 R (.s 20 R .nil)) R (vw R hb429)) <| DK.nil <| CSteps.nil ?_
    exact qw (.o2 R (.one R (.nil _))) (Kj105 () (!t430) h)
theorem ref17_run.con (k : Nat) (a0 : Types) (a1 : Graph) (a2 : Graph) (a3 : Morphism) (a4 : Bool) (a5 : Int) (r : (List Morphism)) (h : ref17_run k a0 a1 a2 a3 a4 a5 = some r) : Con Tryz.prog 126 [] [AggA [SlcA kNodeType a0.fNodes, SlcA kEdgeType a0.fEdges], AggA [SlcA kInt a1.fNodes, SlcA kEdge a1.fEdges], AggA [SlcA kInt a2.fNodes, SlcA kEdge a2.fEdges], AggA [SlcA kInt a3.fNodes, SlcA kInt a3.fEdges], bA a4, iA a5] (RA (SlcA kMorphism r)) := by
 unfold ref17_run at h
 refine vZ (N := 28) Tryz.func126 R R R fun w0_ fg_ => sr <| p1 R 0 R (bx R (qj _)) <| p1 R 1 R (bx R (qj _)) <| p1 R 2 R (bx R (qj _)) <| p1 R 3 R (bx R (qj _)) <| ak R <| nx <| lS R R sh35 R R ?_
 refine lS R R sh38 R R <| lS R R sh38 R R <| lS R R sh64 R R <| mv R R <| mv R R <| WL.p R R R (.s 14 R (.s 15 R (.s 16 R (.s 17 R (.s 18 R (.s 19 R .nil)))))) (q_build (is := [0, 1, 2, 3, 4, 5]) (xs := [.tmp 14, .tmp 15, .tmp 16, .tmp 17, .tmp 18, .tmp 19]) (L := [SlcA kNodeType a0.fNodes, SlcA kEdgeType a0.fEdges, SlcA kInt a1.fNodes, SlcA kEdge a1.fEdges, SlcA kInt a2.fNodes, SlcA kEdge a2.fEdges, SlcA kInt a3.fNodes, SlcA kInt a3.fEdges, bA a4, iA a5, EqA (.slice none 0 0)]) R R z218 pl218 R R (.cons (qj _) (.cons (qj _) (.cons (qj _) (.cons (qj _) (.cons (qW R) (.cons (qW R) .nil)))))) R) <| WL.w [] R (qQ R) R R (.s 20 R .nil) (w_box R (qj _)) ?_
 rintro _ _ ⟨b100, rfl, rfl⟩
 refine av R R <| qz <| qw (env' := [(13, _)]) (.one R (.nil _)) <| qq <| sr <| mv R R ?_
 obtain ⟨t102, ht102, h⟩ := vx h
 refine WL.to (StTo.boxImp [0] R (.cons (Imp.id _) (.cons (Imp.id _) (.cons (Imp.id _) (.cons (Imp.id _) (.cons (Imp.id _) (.cons (Imp.id _) (.cons (Imp.id _) (.cons (Imp.id _) (.cons (Imp.id _) (.cons (Imp.id _) (.cons Imp.nilHd .nil)))))))))))) <| WL.to (StTo.newNil 64 kMorphism) <| WL.w [1, 0] R (qQ R) R R (.s 22 R (.k .nil)) (w_callI (f := 171) (xs := [.tmp 22, .const (.slice none 0 0)]) («as» := [EqA (.pointer (some ⟨b100, 0, none⟩)), EqA (.slice none 0 0)]) R ca171 (ref17_search_nodes.con k b100 (.slice none 0 0) (Search.mk a0 a1 a2 a3 a4 a5 []) [] t102 ht102) R (.cons (Imp.id _) (.cons (Imp.nil kInt) .nil))) ?_
 rintro _ _ ⟨v103, rfl, rfl⟩
 refine nx <| mv R R <| p1 R 24 R (vN R) <| p1 R 25 R (bw R fo218_6) <| WL.q (qQ R) R R (.s 26 R .nil) (q_loadB R sh133 (i := 0) R R) <| av R R <| qz <| qw (env' := [(12, _)]) (.one R (.nil _)) <| qq <| vq ?_
 cases h
 exact vW R R (.t R) (.slc 1 R)
theorem ref17_All.con (k : Nat) (a0 : Types) (a1 : Graph) (a2 : Graph) (a3 : Bool) (r : ((List Morphism) × Int)) (h : ref17_All k a0 a1 a2 a3 = some r) : Con Tryz.prog 79 [] [AggA [SlcA kNodeType a0.fNodes, SlcA kEdgeType a0.fEdges], AggA [SlcA kInt a1.fNodes, SlcA kEdge a1.fEdges], AggA [SlcA kInt a2.fNodes, SlcA kEdge a2.fEdges], bA a3] (RA (TupA [SlcA kMorphism r.1, iA r.2])) := by
 unfold ref17_All at h
 refine vZ (N := 30) Tryz.func79 R R R fun w0_ fg_ => sr <| p1 R 0 R (bx R (qj _)) <| p1 R 1 R (bx R (qj _)) <| p1 R 2 R (bx R (qj _)) <| ak R <| ak R <| nt <| qX <| sr ?_
 refine lS R R sh35 R R <| lS R R sh38 R R <| lS R R sh38 R R ?_
 obtain ⟨t100, ht100, h⟩ := vx h
 refine WL.p R R R (.s 12 R (.s 13 R (.s 14 R .nil))) (vQ (f := 117) (A := iA t100) (xs := [.tmp 12, .tmp 13, .tmp 14]) («as» := [AggA [SlcA kNodeType a0.fNodes, SlcA kEdgeType a0.fEdges], AggA [SlcA kInt a1.fNodes, SlcA kEdge a1.fEdges], AggA [SlcA kInt a2.fNodes, SlcA kEdge a2.fEdges]]) R ca117 (ref17_given.con k a0 a1 a2 t100 ht100) R) <| av R R <| qz <| qw (env' := [(10, _), (6, _), (5, _), (4, _), (3, _)]) (.o4 R (.one R (.nil _))) <| qq <| sr <| mv R R <| pk R 16 R (qB R R) <| nt ?_
 refine qZ h R (fun hb101 h => ?_) (fun hb101 h => ?_)
 ·refine sr <| mv R R <| ak R <| av R R <| qz <| qw (env' := [(9, _), (8, _)]) (.o2 R (.nil _)) <| qq <| vq <| qy ?_
  cases h
  exact QR.f2 R R (.t R) (.t R) (.imp (Imp.tup (.cons (Imp.nil kMorphism) (.cons (Imp.id _) .nil))))
 ·refine qK <| qq <| qX <| W.drawK [(0, false), (1, false), (2, false), (3, false), (4, false), (5, false), (6, false), (7, false)] [] (bm [0, 0, 0, 0, 8, 0, 63, 127]) mx (by kernel_rfl) <| qx R R (.p R (.s 4 R .nil) R (q_loadS R sh35 (leB R) R)) <| qx R R (.p R (.s 5 R .nil) R (q_loadS R sh38 (leB R) R)) <| qx R R (.p R (.s 6 R .nil) R (q_loadS R sh38 (leB R) R)) <| qx R R (.p R (.s 5 R .nil) R (q_loadS R sh38 (leB R) R)) ?_
  obtain ⟨t106, ht106, h⟩ := vx h
  refine qx R R (.p R (.s 22 R .nil) R (vQ (f := 127) (A := AggA [SlcA kInt t106.fNodes, SlcA kInt t106.fEdges]) (xs := [.tmp 22]) («as» := [AggA [SlcA kInt a1.fNodes, SlcA kEdge a1.fEdges]]) R ca127 (ref17_open.con k a1 t106 ht106) R)) <| dm R R R ?_
  obtain ⟨t107, ht107, h⟩ := vx h
  refine qx R R (.p R (.s 19 R (.s 20 R (.s 21 R (.s 23 R (.s 24 R (.k .nil)))))) R (vQ (f := 126) (A := SlcA kMorphism t107) (xs := [.tmp 19, .tmp 20, .tmp 21, .tmp 23, .tmp 24, .const (.int .i64 5000)]) («as» := [AggA [SlcA kNodeType a0.fNodes, SlcA kEdgeType a0.fEdges], AggA [SlcA kInt a1.fNodes, SlcA kEdge a1.fEdges], AggA [SlcA kInt a2.fNodes, SlcA kEdge a2.fEdges], AggA [SlcA kInt t106.fNodes, SlcA kInt t106.fEdges], bA a3, iA 5000]) R ca126 (ref17_run.con k a0 a1 a2 t106 a3 5000 t107 ht107) R)) <| qx R R (.p R (.s 25 R .nil) R (q_assign R)) <| DK.nil <| CSteps.nil <| qw (env' := [(11, _)]) (.one R (.nil _)) <| qq <| qX <| sr <| mv R R <| p1 R 26 R (vB R elS133) <| pk R 27 R (qB R R) <| qz ?_
  refine qq ?_
  refine qZ h R (fun hb108 h => ?_) (fun hb108 h => ?_)
  ·refine sr <| ak R <| ak R <| nt <| vq <| qy ?_
   cases h
   exact QR.f2 R R (.t R) (.t R) (.imp (Imp.tup (.cons (Imp.nil kMorphism) (.cons (Imp.id _) .nil))))
  ·refine qK <| qq <| sr <| mv R R <| av R R <| ak R <| nt <| vq ?_
   cases h
   exact QR.f2 R R (.t R) (.t R) (.id _)
theorem ref21_value.con (k : Nat) (a0 : Term) (a1 : (List Int)) (r : Int) (h : ref21_value k a0 a1 = some r) : Con Tryz.prog 42 [] [AggA [iA a0.fVar, iA a0.fAdd], SlcA kInt a1] (RA (iA r)) := by
 unfold ref21_value at h
 refine vZ (N := 18) Tryz.func42 R R R fun w0_ fg_ => sr <| p1 R 0 R (bx R (qj _)) <| ak R <| nt <| qX <| sr <| fd R R fo23_0 R <| ld R R sh3 <| pk R 6 R (qB R R) ?_
 refine nt ?_
 refine qZ h R (fun hb100 h => ?_) (fun hb100 h => ?_)
 ·refine sr <| fd R R fo23_1 R <| ld R R sh3 <| av R R <| qz <| qw (env' := [(4, _)]) (.one R (.nil _)) <| qq <| vq <| qy ?_
  cases h
  exact vW R R (.t R) (.id _)
 ·refine qK <| qq <| qX <| W.drawK [(0, false), (1, false), (2, false), (3, false), (4, false), (5, false), (6, false), (7, false), (8, false)] [] (bm [0, 0, 2, 7, 15, 0, 32, 127, 255]) mx (by kernel_rfl) <| dm R R R <| df R R R fo23_0 R <| dl R R R sh3 ?_
  obtain ⟨c105, h⟩ := qV h
  refine qx R R (.p R (.s 10 R (.s 12 R .nil)) R (vX R el26 R c105.1 c105.2)) <| dl R R R sh3 <| df R R R fo23_1 R <| dl R R R sh3 ?_
  obtain ⟨c106, h⟩ := qV h
  refine qx R R (.p R (.s 14 R (.s 16 R .nil)) R (vV R c106)) <| qx R R (.p R (.s 17 R .nil) R (q_assign R)) <| DK.nil <| CSteps.nil <| qw (env' := [(4, _)]) (.one R (.nil _)) <| qq <| vq ?_
  cases h
  exact vW R R (.t R) (.id _)
end Go.Proofs.YtcgdfjpeboiioaaGreat
