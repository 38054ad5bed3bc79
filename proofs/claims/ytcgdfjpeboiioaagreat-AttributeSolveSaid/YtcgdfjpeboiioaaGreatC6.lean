/- The Go functions compute the pure ones. (Printed by gen.py.) -/
import Derived.Test.YtcgdfjpeboiioaaGreatC5
namespace Go.Proofs.YtcgdfjpeboiioaaGreat
open Go Go.Abs
attribute [local irreducible] Tryz.prog
theorem difference_arcs.con (k : Nat) (a0 : (List Test)) (r : (List Arc)) (h : difference_arcs k a0 = some r) : Con Tryz.prog 90 [] [SlcA kTest a0] (RA (SlcA kArc r)) := by
 unfold difference_arcs at h
 refine Con.of (N := 54) Tryz.func90 rfl rfl rfl fun w0_ fg_ => sr <| ak rfl <| nx <| ak rfl <| nt <| W.seq <| W.seq ?_
 refine W.region <| mv rfl rfl <| p1 rfl 7 rfl (q_len rfl elS40) <| mk_ rfl <| nt <| W.block <| W.to (StTo.newNil 155 kArc) <| W.to (StTo.as 3 rfl Imp.nilHd) ?_
 refine W.loop2 (Γ := Value) (fun (g0 : Value) (_ : (List Arc)) (x9 : Int) => [(3, HdA g0), (7, SlcA kTest a0), (8, iA (a0.length : Int)), (9, iA x9)]) (fun (g0 : Value) (x3 : (List Arc)) (_ : Int) => [SlE 155 g0 kArc x3]) h (.slice none 0 0) (.o4 rfl (.nil _)) rfl (fun rec0 K0 next0 g0 x3 x9 h => ?_)
 unfold difference_arcs.b0 at h
 refine sr <| p2 rfl 9 rfl 8 rfl (q_int rfl rfl) <| nt <| W.seq ?_
 refine W.condP h rfl (fun hb145 h => ?_) (fun hb145 h => ?_)
 ·refine W.skip <| QN.then_ <| W.seq <| W.block <| sr <| mv rfl rfl ?_
  obtain ⟨c146, h⟩ := ite_n h
  refine p2 rfl 7 rfl 9 rfl (q_index rfl el40 rfl c146.1 c146.2) <| lS rfl rfl sh86 rfl rfl <| WL.w [] rfl (Wanted.plain rfl) rfl rfl .nil (w_alloc rfl z86 (l := [iA 0, iA 0, iA 0, iA 0, iA 0]) rfl) ?_
  rintro _ _ ⟨b147, rfl, rfl⟩
  refine av rfl rfl <| WL.w0 [0] rfl (Wanted.plain rfl) rfl (.s 5 rfl (.s 13 rfl .nil)) (w_store (L := [iA ((rd a0 x9).fKind), iA ((rd a0 x9).fLeft.fVar), iA ((rd a0 x9).fLeft.fAdd), iA ((rd a0 x9).fRight.fVar), iA ((rd a0 x9).fRight.fAdd)]) rfl sh86 (CellsOf.agg _) rfl rfl (leB rfl) rfl) ?_
  rintro _ _ ⟨rfl, rfl⟩
  refine WL.nil <| QN.to (StTo.still [0] 5 rfl rfl) <| QN.then_ <| sr <| mv rfl rfl <| pk rfl 14 rfl (q_build (is := [0, 1]) (xs := [.tmp 14, .const (.int .i64 1)]) (L := [iA x9, iA 1]) rfl rfl z52 pl52 rfl rfl (.cons (CellsOf.one rfl) (.cons (CellsOf.one rfl) .nil)) rfl) <| fd rfl rfl fo86_1 rfl <| fd rfl rfl fo23_0 rfl <| ld rfl rfl sh3 ?_
  obtain ⟨c148, h⟩ := ite_n h
  refine pk rfl 18 rfl (q_addR rfl c148) <| fd rfl rfl fo86_2 rfl <| fd rfl rfl fo23_0 rfl <| ld rfl rfl sh3 ?_
  obtain ⟨c149, h⟩ := ite_n h
  refine pk rfl 22 rfl (q_addR rfl c149) <| fd rfl rfl fo86_2 rfl <| fd rfl rfl fo23_1 rfl <| ld rfl rfl sh3 <| fd rfl rfl fo86_1 rfl <| fd rfl rfl fo23_1 rfl <| ld rfl rfl sh3 ?_
  obtain ⟨c150, h⟩ := ite_n h
  refine p2 rfl 26 rfl 29 rfl (q_subR rfl c150) <| WL.p rfl rfl rfl (.s 15 rfl (.s 19 rfl (.s 23 rfl (.s 30 rfl .nil)))) (q_build (is := [0, 1, 2, 3]) (xs := [.tmp 15, .tmp 19, .tmp 23, .tmp 30]) (L := [iA x9, iA 1, iA ((rd a0 x9).fLeft.fVar + 1), iA ((rd a0 x9).fRight.fVar + 1), iA ((rd a0 x9).fRight.fAdd - (rd a0 x9).fLeft.fAdd)]) rfl rfl z155 pl155 rfl rfl (.cons (CellsOf.agg _) (.cons (CellsOf.one rfl) (.cons (CellsOf.one rfl) (.cons (CellsOf.one rfl) .nil)))) rfl) <| WL.w [] rfl (Wanted.plain rfl) rfl rfl .nil (w_alloc rfl z155 (l := [iA 0, iA 0, iA 0, iA 0, iA 0]) rfl) ?_
  rintro _ _ ⟨b151, rfl, rfl⟩
  refine WL.w0 [0] rfl (Wanted.plain rfl) rfl (.s 6 rfl (.s 31 rfl .nil)) (w_store (L := [iA x9, iA 1, iA ((rd a0 x9).fLeft.fVar + 1), iA ((rd a0 x9).fRight.fVar + 1), iA ((rd a0 x9).fRight.fAdd - (rd a0 x9).fLeft.fAdd)]) rfl sh155 (CellsOf.agg _) rfl rfl (leB rfl) rfl) ?_
  rintro _ _ ⟨rfl, rfl⟩
  refine WL.nil <| QN.to (StTo.still [0] 6 rfl rfl) <| QN.weaken (env' := [(6, _), (4, _), (5, _), (9, _), (8, _), (7, _), (3, _)]) (.o4 rfl (.o2 rfl (.one rfl (.nil _)))) <| QN.then_ <| sr <| mv rfl rfl <| lS rfl rfl sh155 rfl rfl <| p1 rfl 33 rfl (q_lit (kd := kArc) (ps := [(0, .tmp 33)]) (xs := [.tmp 33]) («as» := [AggA [iA x9, iA 1, iA ((rd a0 x9).fLeft.fVar + 1), iA ((rd a0 x9).fRight.fVar + 1), iA ((rd a0 x9).fRight.fAdd - (rd a0 x9).fLeft.fAdd)]]) (ys := [(Arc.mk (Use.mk x9 1) ((rd a0 x9).fLeft.fVar + 1) ((rd a0 x9).fRight.fVar + 1) ((rd a0 x9).fRight.fAdd - (rd a0 x9).fLeft.fAdd))]) rfl rfl el146 rfl gr155 rfl rfl rfl (.cons (CellsOf.agg _) .nil)) ?_
  obtain ⟨c152, h⟩ := ite_n h
  refine WL.w [0] rfl (Wanted.plain rfl) rfl rfl (.s 32 rfl (.s 34 rfl .nil)) (w_append (kd := kArc) rfl el146 rfl gr155 c152) ?_
  rintro _ _ ⟨v153, rfl, rfl⟩
  refine av rfl rfl <| nx <| fd rfl rfl fo86_0 rfl <| ld rfl rfl sh3 <| pk rfl 37 rfl (q_int rfl rfl) <| WL.nil <| QN.weaken (env' := [(38, _), (3, _), (6, _), (4, _), (9, _), (8, _), (7, _)]) (.o4 rfl (.o2 rfl (.one rfl (.nil _)))) <| QN.then_ ?_
  refine W.condP h rfl (fun hb158 h => ?_) (fun hb158 h => ?_)
  ·refine W.region <| mv rfl rfl <| mv rfl rfl <| pk rfl 40 rfl (q_build (is := [0, 1]) (xs := [.tmp 40, .const (.int .i64 (-1))]) (L := [iA x9, iA (-1)]) rfl rfl z52 pl52 rfl rfl (.cons (CellsOf.one rfl) (.cons (CellsOf.one rfl) .nil)) rfl) <| fd rfl rfl fo155_2 rfl <| ld rfl rfl sh3 <| fd rfl rfl fo155_1 rfl <| ld rfl rfl sh3 <| fd rfl rfl fo155_3 rfl <| ld rfl rfl sh3 ?_
   obtain ⟨c159, h⟩ := ite_n h
   refine p1 rfl 47 rfl (q_negR rfl c159) <| WL.p rfl rfl rfl (.s 41 rfl (.s 43 rfl (.s 45 rfl (.s 48 rfl .nil)))) (q_build (is := [0, 1, 2, 3]) (xs := [.tmp 41, .tmp 43, .tmp 45, .tmp 48]) (L := [iA x9, iA (-1), iA ((rd a0 x9).fRight.fVar + 1), iA ((rd a0 x9).fLeft.fVar + 1), iA (0 - ((rd a0 x9).fRight.fAdd - (rd a0 x9).fLeft.fAdd))]) rfl rfl z155 pl155 rfl rfl (.cons (CellsOf.agg _) (.cons (CellsOf.one rfl) (.cons (CellsOf.one rfl) (.cons (CellsOf.one rfl) .nil)))) rfl) <| p1 rfl 49 rfl (q_lit (kd := kArc) (ps := [(0, .tmp 49)]) (xs := [.tmp 49]) («as» := [AggA [iA x9, iA (-1), iA ((rd a0 x9).fRight.fVar + 1), iA ((rd a0 x9).fLeft.fVar + 1), iA (0 - ((rd a0 x9).fRight.fAdd - (rd a0 x9).fLeft.fAdd))]]) (ys := [(Arc.mk (Use.mk x9 (-1)) ((rd a0 x9).fRight.fVar + 1) ((rd a0 x9).fLeft.fVar + 1) (0 - ((rd a0 x9).fRight.fAdd - (rd a0 x9).fLeft.fAdd)))]) rfl rfl el146 rfl gr155 rfl rfl rfl (.cons (CellsOf.agg _) .nil)) ?_
   obtain ⟨c160, h⟩ := ite_n h
   refine WL.w [0] rfl (Wanted.plain rfl) rfl rfl (.s 39 rfl (.s 50 rfl .nil)) (w_append (kd := kArc) rfl el146 rfl gr155 c160) ?_
   rintro _ _ ⟨v161, rfl, rfl⟩
   refine av rfl rfl <| WL.nil <| QN.block <| QN.weaken (env' := [(3, _), (9, _), (8, _), (7, _)]) (.o4 rfl (.nil _)) <| QN.then_ <| W.region ?_
   obtain ⟨c162, h⟩ := ite_n h
   refine pk rfl 9 rfl (q_addR rfl c162) <| mv rfl rfl <| WL.nil ?_
   exact next0 v161 ((x3 ++ [(Arc.mk (Use.mk x9 1) ((rd a0 x9).fLeft.fVar + 1) ((rd a0 x9).fRight.fVar + 1) ((rd a0 x9).fRight.fAdd - (rd a0 x9).fLeft.fAdd))]) ++ [(Arc.mk (Use.mk x9 (-1)) ((rd a0 x9).fRight.fVar + 1) ((rd a0 x9).fLeft.fVar + 1) (0 - ((rd a0 x9).fRight.fAdd - (rd a0 x9).fLeft.fAdd)))]) (x9 + 1) _ h (.o4 rfl (.nil _))
  ·refine W.skip <| QN.block <| QN.then_ <| W.region ?_
   obtain ⟨c163, h⟩ := ite_n h
   refine pk rfl 9 rfl (q_addR rfl c163) <| mv rfl rfl <| WL.nil ?_
   exact next0 v153 (x3 ++ [(Arc.mk (Use.mk x9 1) ((rd a0 x9).fLeft.fVar + 1) ((rd a0 x9).fRight.fVar + 1) ((rd a0 x9).fRight.fAdd - (rd a0 x9).fLeft.fAdd))]) (x9 + 1) _ h (.o4 rfl (.nil _))
 ·refine W.exit <| QX.then_ <| QX.then_ <| QX.here <| QN.then_ <| sr <| mv rfl rfl <| av rfl rfl <| nt <| W.ret ?_
  cases h
  exact QR.f1 rfl rfl (.t rfl) (.slc 0 rfl)
theorem difference_distances.con (k : Nat) (a0 : Int) (a1 : (List Arc)) (r : ((List Int) × Bool)) (h : difference_distances k a0 a1 = some r) : Con Tryz.prog 91 [] [iA a0, SlcA kArc a1] (RA (TupA [SlcA kInt r.1, bA r.2])) := by
 unfold difference_distances at h
 refine Con.of (N := 49) Tryz.func91 rfl rfl rfl fun w0_ fg_ => sr <| ak rfl <| ak rfl <| nx <| mv rfl rfl ?_
 obtain ⟨c100, h⟩ := ite_n h
 refine pk rfl 11 rfl (q_addR rfl c100) ?_
 obtain ⟨c101, h⟩ := ite_n h
 refine WL.w [] rfl (Wanted.plain rfl) rfl rfl (.s 12 rfl (.s 12 rfl .nil)) (w_make (kd := kInt) (z := (0 : Int)) rfl el26 rfl gr3 z3 rfl c101.1 c101.2) ?_
 rintro _ _ ⟨v102, rfl, rfl⟩
 refine av rfl rfl <| nt <| W.seq <| sr <| mv rfl rfl ?_
 obtain ⟨c103, h⟩ := ite_n h
 refine pk rfl 14 rfl (q_addR rfl c103) <| mk_ rfl <| WL.nil <| QN.weaken (env' := [(16, _), (15, _), (6, _), (1, _)]) (.o4 rfl (.nil _)) <| QN.then_ <| W.block ?_
 refine W.loop2 (Γ := Unit) (fun (_ : Unit) (_ : (List Int)) (x16 : Int) => [(1, SlcA kArc a1), (6, HdA v102), (15, iA (a0 + 2)), (16, iA x16)]) (fun (_ : Unit) (x6 : (List Int)) (_ : Int) => [SlE 3 v102 kInt x6]) h () (.o4 rfl (.nil _)) rfl (fun rec0 K0 next0 _ x6 x16 h => ?_)
 unfold difference_distances.b0 at h
 refine sr <| p2 rfl 16 rfl 15 rfl (q_int rfl rfl) <| nt <| W.seq ?_
 refine W.condP h rfl (fun hb210 h => ?_) (fun hb210 h => ?_)
 ·refine W.skip <| QN.then_ <| W.seq <| W.block <| sr <| ak rfl <| nt <| W.seq <| sr <| mv rfl rfl ?_
  refine p1 rfl 18 rfl (q_len rfl elS146) <| mk_ rfl <| nt <| W.block ?_
  refine W.loop3 (Γ := Unit) (fun (_ : Unit) (_ : (List Int)) (x7 : Bool) (x20 : Int) => [(1, SlcA kArc a1), (6, HdA v102), (15, iA (a0 + 2)), (16, iA x16), (7, bA x7), (18, SlcA kArc a1), (19, iA (a1.length : Int)), (20, iA x20)]) (fun (_ : Unit) (x6' : (List Int)) (_ : Bool) (_ : Int) => [SlE 3 v102 kInt x6']) h () (.o4 rfl (.o4 rfl (.nil _))) rfl (fun rec1 K1 next1 _ x6' x7 x20 h => ?_)
  unfold difference_distances.b1 at h
  refine sr <| p2 rfl 20 rfl 19 rfl (q_int rfl rfl) <| nt <| W.seq ?_
  refine W.condP h rfl (fun hb245 h => ?_) (fun hb245 h => ?_)
  ·refine W.skip <| QN.then_ <| W.seq <| W.block <| sr ?_
   obtain ⟨c246, h⟩ := ite_n h
   refine p2 rfl 18 rfl 20 rfl (q_index rfl el146 rfl c246.1 c246.2) <| lS rfl rfl sh155 rfl rfl <| WL.w [] rfl (Wanted.plain rfl) rfl rfl .nil (w_alloc rfl z155 (l := [iA 0, iA 0, iA 0, iA 0, iA 0]) rfl) ?_
   rintro _ _ ⟨b247, rfl, rfl⟩
   refine WL.w0 [0] rfl (Wanted.plain rfl) rfl (.s 9 rfl (.s 23 rfl .nil)) (w_store (L := [iA ((rd a1 x20).fuse.fTest), iA ((rd a1 x20).fuse.fSign), iA ((rd a1 x20).ffrom), iA ((rd a1 x20).fto), iA ((rd a1 x20).fmost)]) rfl sh155 (CellsOf.agg _) rfl rfl (leB rfl) rfl) ?_
   rintro _ _ ⟨rfl, rfl⟩
   refine WL.nil <| QN.to (StTo.still [0] 9 rfl rfl) <| QN.then_ <| W.seq <| W.drawK [(0, false), (1, false), (2, false), (3, true), (4, true), (5, false), (6, false), (7, false), (8, false)] [] (bm [0, 0, 2, 7, 15, 0, 32, 127, 255]) mx (by kernel_rfl) <| dm rfl rfl rfl <| df rfl rfl rfl fo155_2 rfl <| dl rfl rfl rfl sh3 ?_
   obtain ⟨c252, h⟩ := ite_n h
   refine DK.cons rfl rfl (.o rfl (.s 24 rfl (.s 26 rfl .nil)) rfl (q_indexO rfl el26 (j := 0) rfl c252.1 c252.2)) <| DK.cons rfl rfl (.o rfl (.s 27 rfl .nil) rfl (q_loadEl rfl sh3 (j := 0) rfl rfl c252.1 c252.2 rfl)) <| df rfl rfl rfl fo155_3 rfl <| dl rfl rfl rfl sh3 ?_
   obtain ⟨c253, h⟩ := ite_n h
   refine DK.cons rfl rfl (.p rfl (.s 28 rfl (.s 30 rfl .nil)) rfl (q_addR rfl c253)) <| DK.cons rfl rfl (.p rfl (.s 31 rfl .nil) rfl (q_assign rfl)) <| DK.nil <| CSteps.nil <| QN.weaken (env' := [(10, _), (9, _), (20, _), (19, _), (18, _), (7, _), (16, _), (15, _), (6, _), (1, _)]) (.o4 rfl (.o4 rfl (.o2 rfl (.nil _)))) <| QN.then_ <| sr <| mv rfl rfl <| mv rfl rfl <| fd rfl rfl fo155_1 rfl <| ld rfl rfl sh3 ?_
   obtain ⟨c254, h⟩ := ite_n h
   refine WL.q (Wanted.plain rfl) rfl rfl (.s 33 rfl (.s 35 rfl .nil)) (q_indexO rfl el26 (j := 0) rfl c254.1 c254.2) <| WL.q (Wanted.plain rfl) rfl rfl (.s 36 rfl .nil) (q_loadEl rfl sh3 (j := 0) rfl rfl c254.1 c254.2 rfl) <| p2 rfl 32 rfl 37 rfl (q_int rfl rfl) <| nt ?_
   refine W.condP h rfl (fun hb257 h => ?_) (fun hb257 h => ?_)
   ·refine W.region <| mv rfl rfl <| fd rfl rfl fo155_1 rfl <| ld rfl rfl sh3 <| mv rfl rfl ?_
    obtain ⟨c258, h⟩ := ite_n h
    refine WL.q (Wanted.plain rfl) rfl rfl (.s 39 rfl (.s 41 rfl .nil)) (q_indexO rfl el26 (j := 0) rfl c258.1 c258.2) <| WL.w0 [0] rfl (Wanted.plain rfl) rfl (.s 43 rfl (.s 42 rfl .nil)) (w_storeEl (kd := kInt) (z := ((rd x6' ((rd a1 x20).fto)) + (rd a1 x20).fmost)) rfl sh3 (CellsOf.one rfl) rfl rfl rfl c258.1 c258.2 rfl rfl) ?_
    rintro _ _ ⟨rfl, rfl⟩
    refine ak rfl <| WL.nil <| QN.block <| QN.weaken (env' := [(7, _), (20, _), (19, _), (18, _), (16, _), (15, _), (6, _), (1, _)]) (.o4 rfl (.o4 rfl (.nil _))) <| QN.then_ <| W.region ?_
    obtain ⟨c259, h⟩ := ite_n h
    refine pk rfl 20 rfl (q_addR rfl c259) <| mv rfl rfl <| WL.nil ?_
    exact next1 () (x6'.set ((rd a1 x20).ffrom : Int).toNat ((rd x6' ((rd a1 x20).fto)) + (rd a1 x20).fmost)) true (x20 + 1) _ h (.o4 rfl (.o4 rfl (.nil _)))
   ·refine W.skip <| QN.block <| QN.weaken (env' := [(20, _), (19, _), (18, _), (7, _), (16, _), (15, _), (6, _), (1, _)]) (.o4 rfl (.o4 rfl (.nil _))) <| QN.then_ <| W.region ?_
    obtain ⟨c260, h⟩ := ite_n h
    refine pk rfl 20 rfl (q_addR rfl c260) <| mv rfl rfl <| WL.nil ?_
    exact next1 () x6' x7 (x20 + 1) _ h (.o4 rfl (.o4 rfl (.nil _)))
  ·refine W.exit <| QX.then_ <| QX.then_ <| QX.here <| QN.then_ <| sr <| mv rfl rfl <| p1 rfl 45 rfl (q_not rfl) <| nt ?_
   refine W.condP h rfl (fun hb261 h => ?_) (fun hb261 h => ?_)
   ·refine sr <| mv rfl rfl <| av rfl rfl <| ak rfl <| WL.nil <| QN.weaken (env' := [(5, _), (4, _)]) (.o2 rfl (.nil _)) <| QN.then_ <| W.ret <| QR.block <| QR.then_ <| QR.then_ <| QR.block ?_
    refine QR.then_ ?_
    cases h
    exact QR.f2 rfl rfl (.t rfl) (.t rfl) (.tup (.cons (.slc 0 rfl) (.cons (.id _) .nil)))
   ·refine W.skip <| QN.block <| QN.weaken (env' := [(16, _), (15, _), (6, _), (1, _)]) (.o4 rfl (.nil _)) <| QN.then_ <| W.region ?_
    obtain ⟨c262, h⟩ := ite_n h
    refine pk rfl 16 rfl (q_addR rfl c262) <| mv rfl rfl <| WL.nil ?_
    exact next0 () x6' (x16 + 1) _ h (.o4 rfl (.nil _))
 ·refine W.exit <| QX.then_ <| QX.then_ <| QX.here <| QN.then_ <| sr <| ak rfl <| ak rfl <| nt <| W.ret ?_
  cases h
  exact QR.f2 rfl rfl (.t rfl) (.t rfl) (.imp (Imp.tup (.cons (Imp.nil kInt) (.cons (Imp.id _) .nil))))
theorem bits_Mul32.con (k : Nat) (a0 : Int) (a1 : Int) (r : (Int × Int)) (h : bits_Mul32 k a0 a1 = some r) : Con Tryz.prog 197 [] [EqA (.int .u32 a0), EqA (.int .u32 a1)] (RA (TupA [EqA (.int .u32 r.1), EqA (.int .u32 r.2)])) := by
 unfold bits_Mul32 at h
 refine Con.of (N := 17) Tryz.func197 rfl rfl rfl fun w0_ fg_ => sr <| ak rfl <| ak rfl <| nx <| mv rfl rfl <| p1 rfl 7 rfl (q_conv rfl cv206 cvS242) <| mv rfl rfl <| p1 rfl 9 rfl (q_conv rfl cv206 cvS242) ?_
 refine p2 rfl 8 rfl 10 rfl (q_int rfl rfl) <| av rfl rfl <| WL.nil <| QN.weaken (env' := [(6, _)]) (.one rfl (.nil _)) <| QN.then_ <| sr <| mv rfl rfl <| pk rfl 12 rfl (q_shrN rfl (by decide)) <| p1 rfl 13 rfl (q_conv rfl cv242 cvS206) <| mv rfl rfl <| p1 rfl 15 rfl (q_conv rfl cv242 cvS206) <| av rfl rfl ?_
 refine av rfl rfl <| nt <| W.ret ?_
 cases h
 exact QR.f2 rfl rfl (.t rfl) (.t rfl) (.id _)
theorem bits_Mul64.con (k : Nat) (a0 : Int) (a1 : Int) (r : (Int × Int)) (h : bits_Mul64 k a0 a1 = some r) : Con Tryz.prog 198 [] [EqA (.int .u64 a0), EqA (.int .u64 a1)] (RA (TupA [EqA (.int .u64 r.1), EqA (.int .u64 r.2)])) := by
 unfold bits_Mul64 at h
 refine Con.of (N := 51) Tryz.func198 rfl rfl rfl fun w0_ fg_ => sr <| ak rfl <| ak rfl <| nx <| mv rfl rfl <| pk rfl 14 rfl (q_bits rfl rfl) <| av rfl rfl <| WL.nil ?_
 refine QN.then_ <| sr <| mv rfl rfl <| pk rfl 16 rfl (q_shrN rfl (by decide)) <| av rfl rfl <| nx <| mv rfl rfl <| pk rfl 18 rfl (q_bits rfl rfl) <| av rfl rfl ?_
 refine WL.nil <| QN.weaken (env' := [(8, _), (7, _), (6, _), (1, _), (0, _)]) (.o4 rfl (.one rfl (.nil _))) <| QN.then_ <| sr <| mv rfl rfl <| pk rfl 20 rfl (q_shrN rfl (by decide)) <| av rfl rfl <| nx <| mv rfl rfl ?_
 refine mv rfl rfl <| p2 rfl 22 rfl 23 rfl (q_int rfl rfl) <| av rfl rfl <| nx <| mv rfl rfl <| mv rfl rfl <| p2 rfl 25 rfl 26 rfl (q_int rfl rfl) <| mv rfl rfl <| pk rfl 28 rfl (q_shrN rfl (by decide)) <| p2 rfl 27 rfl 29 rfl (q_int rfl rfl) ?_
 refine av rfl rfl <| WL.nil <| QN.weaken (env' := [(11, _), (9, _), (7, _), (6, _), (1, _), (0, _)]) (.o4 rfl (.o2 rfl (.nil _))) <| QN.then_ <| sr <| mv rfl rfl <| pk rfl 31 rfl (q_bits rfl rfl) <| av rfl rfl <| nx ?_
 refine mv rfl rfl <| pk rfl 33 rfl (q_shrN rfl (by decide)) <| av rfl rfl <| nx <| mv rfl rfl <| mv rfl rfl <| mv rfl rfl <| p2 rfl 36 rfl 37 rfl (q_int rfl rfl) <| p2 rfl 35 rfl 38 rfl (q_int rfl rfl) <| av rfl rfl ?_
 refine WL.nil <| QN.weaken (env' := [(12, _), (13, _), (9, _), (7, _), (1, _), (0, _)]) (.o4 rfl (.o2 rfl (.nil _))) <| QN.then_ <| sr <| mv rfl rfl <| mv rfl rfl <| p2 rfl 40 rfl 41 rfl (q_int rfl rfl) <| mv rfl rfl <| p2 rfl 42 rfl 43 rfl (q_int rfl rfl) <| mv rfl rfl <| pk rfl 45 rfl (q_shrN rfl (by decide)) <| p2 rfl 44 rfl 46 rfl (q_int rfl rfl) ?_
 refine av rfl rfl <| WL.nil <| QN.weaken (env' := [(4, _), (1, _), (0, _)]) (.o2 rfl (.one rfl (.nil _))) <| QN.then_ <| sr <| mv rfl rfl <| mv rfl rfl <| p2 rfl 48 rfl 49 rfl (q_int rfl rfl) <| av rfl rfl <| nt <| W.ret ?_
 cases h
 exact QR.f2 rfl rfl (.t rfl) (.t rfl) (.id _)
theorem bits_Mul.con (k : Nat) (a0 : Int) (a1 : Int) (r : (Int × Int)) (h : bits_Mul k a0 a1 = some r) : Con Tryz.prog 174 [] [EqA (.int .u64 a0), EqA (.int .u64 a1)] (RA (TupA [EqA (.int .u64 r.1), EqA (.int .u64 r.2)])) := by
 unfold bits_Mul at h
 refine Con.of (N := 30) Tryz.func174 rfl rfl rfl fun w0_ fg_ => sr <| ak rfl <| ak rfl <| nt <| W.seq <| W.condKF <| W.skip <| QN.then_ <| sr ?_
 refine mv rfl rfl <| mv rfl rfl ?_
 obtain ⟨t100, ht100, h⟩ := bind_s h
 refine p2 rfl 23 rfl 24 rfl (q_call (f := 198) (A := TupA [EqA (.int .u64 t100.1), EqA (.int .u64 t100.2)]) (xs := [.tmp 23, .tmp 24]) («as» := [EqA (.int .u64 a0), EqA (.int .u64 a1)]) rfl ca198 (bits_Mul64.con k a0 a1 t100 ht100) rfl) <| mv rfl rfl <| p1 rfl 22 rfl (q_extract rfl rfl) <| p1 rfl 22 rfl (q_extract rfl rfl) <| av rfl rfl <| av rfl rfl <| WL.nil <| QN.weaken (env' := [(9, _), (8, _)]) (.o2 rfl (.nil _)) <| QN.then_ <| sr <| mv rfl rfl <| mv rfl rfl ?_
 refine av rfl rfl <| av rfl rfl <| nt <| W.ret ?_
 cases h
 exact QR.f2 rfl rfl (.t rfl) (.t rfl) (.id _)
theorem slices_Repeat_int.con (k : Nat) (a0 : (List Int)) (a1 : Int) (r : (List Int)) (h : slices_Repeat_int k a0 a1 = some r) : Con Tryz.prog 142 [] [SlcA kInt a0, iA a1] (RApp 3 kInt r) := by
 unfold slices_Repeat_int at h
 refine Con.of (N := 48) Tryz.func142 rfl rfl rfl fun w0_ fg_ => sr <| ak rfl <| nt <| W.seq <| sr <| mv rfl rfl <| pk rfl 9 rfl (q_int rfl rfl) <| nt ?_
 refine W.condP h rfl (fun hb101 h => ?_) (fun hb101 h => ?_)
 ·cases h
 ·refine W.skip <| QN.then_ <| sr <| mv rfl rfl <| p1 rfl 13 rfl (q_len rfl elS26) <| p1 rfl 14 rfl (q_conv rfl cv220 cvS3) <| mv rfl rfl <| p1 rfl 16 rfl (q_conv rfl cv220 cvS3) ?_
  obtain ⟨t102, ht102, h⟩ := bind_s h
  refine p2 rfl 15 rfl 17 rfl (q_call (f := 174) (A := TupA [EqA (.int .u64 t102.1), EqA (.int .u64 t102.2)]) (xs := [.tmp 15, .tmp 17]) («as» := [EqA (.int .u64 (IntKind.u64.wrap (a0.length : Int))), EqA (.int .u64 (IntKind.u64.wrap a1))]) rfl ca174 (bits_Mul.con k (IntKind.u64.wrap (a0.length : Int)) (IntKind.u64.wrap a1) t102 ht102) rfl) <| mv rfl rfl <| p1 rfl 12 rfl (q_extract rfl rfl) <| p1 rfl 12 rfl (q_extract rfl rfl) <| av rfl rfl <| av rfl rfl <| WL.nil <| QN.weaken (env' := [(6, _), (5, _), (0, _)]) (.o2 rfl (.one rfl (.nil _))) <| QN.then_ <| W.seq <| W.seq ?_
  refine W.jn1 (Γ := Unit) (fun (_ : Unit) (x26 : Bool) => [(0, SlcA kInt a0), (6, EqA (.int .u64 t102.2)), (26, bA x26)]) (fun (_ : Unit) (_ : Bool) => []) h (fun _ x26 h => ?_) (fun j105 Kj105 h => ?_)
  ·refine QN.then_ ?_
   refine W.condP h rfl (fun hb107 h => ?_) (fun hb107 h => ?_)
   ·cases h
   ·refine W.skip <| QN.then_ <| sr <| mv rfl rfl <| p1 rfl 28 rfl (q_conv rfl cv3 cvS220) ?_
    obtain ⟨c108, h⟩ := ite_n h
    refine WL.w [] rfl (Wanted.plain rfl) rfl rfl (.s 29 rfl (.s 29 rfl .nil)) (w_make (kd := kInt) (z := (0 : Int)) rfl el26 rfl gr3 z3 rfl c108.1 c108.2) ?_
    rintro _ _ ⟨v109, rfl, rfl⟩
    refine av rfl rfl <| nx <| mv rfl rfl <| mv rfl rfl ?_
    obtain ⟨c110, h⟩ := ite_n h
    refine WL.w [0] rfl (Wanted.plain rfl) rfl rfl (.s 31 rfl (.s 32 rfl .nil)) (w_copyO rfl el26 rfl c110.1 c110.2) ?_
    rintro _ _ ⟨rfl, rfl⟩
    refine av rfl rfl <| WL.nil <| QN.weaken (env' := [(8, _), (7, _)]) (.o2 rfl (.nil _)) <| QN.then_ <| W.seq <| W.block ?_
    refine W.loop2 (Γ := Unit) (fun (_ : Unit) (_ : (List Int)) (x8 : Int) => [(7, HdA v109), (8, iA x8)]) (fun (_ : Unit) (x7 : (List Int)) (_ : Int) => [SlE 3 v109 kInt x7]) h () (.o2 rfl (.nil _)) rfl (fun rec0 K0 next0 _ x7 x8 h => ?_)
    unfold slices_Repeat_int.b0 at h
    refine W.seq <| sr <| mv rfl rfl <| mv rfl rfl <| WL.q (Wanted.plain rfl) rfl rfl (.s 35 rfl .nil) (q_lenO rfl elS26 (i := 0) rfl) <| p2 rfl 34 rfl 36 rfl (q_int rfl rfl) <| nt ?_
    refine W.condP h rfl (fun hb137 h => ?_) (fun hb137 h => ?_)
    ·refine W.skip <| QN.then_ <| W.block <| W.drawK [(0, false), (1, false), (2, false), (3, true), (4, false), (5, false), (6, true)] [7, 8, 9] (bm [0, 0, 0, 6, 0, 0, 48, 126, 255, 511]) mx (by kernel_rfl) <| dm rfl rfl rfl <| dm rfl rfl rfl <| dm rfl rfl rfl ?_
     obtain ⟨c146, h⟩ := ite_n h
     refine DK.cons rfl rfl (.o rfl (.s 39 rfl (.s 40 rfl .nil)) rfl (q_loO rfl el26 (j := 0) rfl c146.1 c146.2)) <| dm rfl rfl rfl <| dm rfl rfl rfl ?_
     obtain ⟨c147, h⟩ := ite_n h
     refine DK.cons rfl rfl (.o rfl (.s 42 rfl (.s 43 rfl .nil)) rfl (q_hiO rfl el26 (j := 0) rfl c147.1 c147.2)) ?_
     obtain ⟨c148, h⟩ := ite_n h
     obtain ⟨c149, h⟩ := ite_n h
     refine DK.nil <| CSteps.w [0] rfl rfl rfl rfl (.s 41 rfl (.s 44 rfl .nil)) rfl (w_copyP rfl el26 rfl c148.1 c148.2) ?_
     rintro _ _ ⟨rfl, rfl⟩
     refine CSteps.p rfl rfl rfl (.s 38 rfl (.s 45 rfl .nil)) rfl (q_addR rfl c149) <| CSteps.p rfl rfl rfl (.s 46 rfl .nil) rfl (q_assign rfl) <| CSteps.nil <| QN.block ?_
     exact next0 () (cpy x7 (x8 : Int).toNat (x7.take (min (x8 : Int).toNat (x7.length - (x8 : Int).toNat)))) (x8 + ((min (x8 : Int).toNat (x7.length - (x8 : Int).toNat)) : Nat)) _ h (.o2 rfl (.nil _))
    ·refine W.exit <| QX.then_ <| QX.then_ <| QX.here <| QN.then_ <| sr <| mv rfl rfl <| av rfl rfl <| WL.nil <| QN.weaken (env' := [(4, _)]) (.one rfl (.nil _)) <| QN.then_ <| W.ret ?_
     cases h
     exact QR.r1 rfl rfl (.t rfl) ⟨_, rfl, rfl⟩
  ·refine W.region <| mv rfl rfl <| pk rfl 21 rfl (q_int rfl rfl) <| mv rfl rfl ?_
   rcases bif_s h with ⟨hb150, h⟩ | ⟨hb150, h⟩
   ·refine sk rfl rfl rfl hb150 <| sk rfl rfl rfl hb150 <| pk rfl 23 rfl (q_pickT rfl hb150) <| WL.nil ?_
    exact QN.weaken (.o2 rfl (.one rfl (.nil _))) (Kj105 () true h)
   ·refine wm rfl rfl rfl hb150 rfl rfl <| wq rfl rfl rfl hb150 (.s 24 rfl (.k .nil)) (q_int rfl rfl).o <| p2 rfl 23 rfl 25 rfl (q_pickF rfl hb150) <| WL.nil ?_
    exact QN.weaken (.o2 rfl (.one rfl (.nil _))) (Kj105 () (decide (t102.2 > 9223372036854775807)) h)
theorem difference_fresh.con (k : Nat) (a0 : Int) (r : (List (List Int))) (h : difference_fresh k a0 = some r) : Con Tryz.prog 92 [] [iA a0] (RA (SlcA (kSl kInt) r)) := by
 unfold difference_fresh at h
 refine Con.of (N := 24) Tryz.func92 rfl rfl rfl fun w0_ fg_ => sr <| ak rfl <| nx <| ak rfl <| nt <| W.seq <| W.seq ?_
 refine W.region <| mv rfl rfl ?_
 obtain ⟨c100, h⟩ := ite_n h
 refine pk rfl 6 rfl (q_addR rfl c100) <| mk_ rfl <| nt <| W.block <| W.to (StTo.newNil 26 (kSl kInt)) <| W.to (StTo.as 3 rfl Imp.nilHd) ?_
 refine W.loop2 (Γ := Value) (fun (g0 : Value) (_ : (List (List Int))) (x8 : Int) => [(0, iA a0), (3, HdA g0), (7, iA (a0 + 1)), (8, iA x8)]) (fun (g0 : Value) (x3 : (List (List Int))) (_ : Int) => [SlE 26 g0 (kSl kInt) x3]) h (.slice none 0 0) (.o4 rfl (.nil _)) rfl (fun rec0 K0 next0 g0 x3 x8 h => ?_)
 unfold difference_fresh.b0 at h
 refine sr <| p2 rfl 8 rfl 7 rfl (q_int rfl rfl) <| nt <| W.seq ?_
 refine W.condP h rfl (fun hb124 h => ?_) (fun hb124 h => ?_)
 ·refine W.skip <| QN.then_ <| W.seq <| W.block <| sr <| mv rfl rfl <| av rfl rfl <| nx <| WL.p rfl rfl rfl (.k .nil) (q_lit (kd := kInt) (ps := [(0, .const (.int .i64 1125899906842624))]) (xs := [.const (.int .i64 1125899906842624)]) («as» := [iA 1125899906842624]) (ys := [1125899906842624]) rfl rfl el26 rfl gr3 rfl rfl rfl (.cons (CellsOf.one rfl) .nil)) ?_
  refine mv rfl rfl ?_
  obtain ⟨c125, h⟩ := ite_n h
  refine pk rfl 12 rfl (q_addR rfl c125) ?_
  obtain ⟨t126, ht126, h⟩ := bind_s h
  refine WL.w [] rfl (Wanted.plain rfl) rfl rfl (.s 11 rfl (.s 13 rfl .nil)) (w_callI (f := 142) (xs := [.tmp 11, .tmp 13]) («as» := [SlcA kInt [1125899906842624], iA (a0 + 1)]) rfl ca142 (slices_Repeat_int.con k [1125899906842624] (a0 + 1) t126 ht126) rfl (.cons (Imp.id _) (.cons (Imp.id _) .nil))) ?_
  rintro _ _ ⟨v127, rfl, rfl⟩
  refine av rfl rfl <| nx <| mv rfl rfl <| mv rfl rfl ?_
  obtain ⟨c128, h⟩ := ite_n h
  refine WL.q (Wanted.plain rfl) rfl rfl (.s 15 rfl (.s 16 rfl .nil)) (q_indexO rfl el26 (j := 0) rfl c128.1 c128.2) <| WL.w0 [0] rfl (Wanted.plain rfl) rfl (.s 17 rfl (.k .nil)) (w_storeEl (kd := kInt) (z := 0) rfl sh3 (CellsOf.one rfl) rfl rfl rfl c128.1 c128.2 rfl rfl) ?_
  rintro _ _ ⟨rfl, rfl⟩
  refine WL.nil <| QN.weaken (env' := [(5, _), (8, _), (7, _), (3, _), (0, _)]) (.o4 rfl (.one rfl (.nil _))) <| QN.then_ <| W.region <| mv rfl rfl <| mv rfl rfl <| WL.to (StTo.freeze [0] 19 rfl rfl) <| p1 rfl 19 rfl (q_lit (kd := (kSl kInt)) (ps := [(0, .tmp 19)]) (xs := [.tmp 19]) («as» := [SlcA kInt (t126.set (x8 : Int).toNat 0)]) (ys := [(t126.set (x8 : Int).toNat 0)]) rfl rfl el149 rfl gr26 rfl rfl rfl (.cons (CellsOf.one rfl) .nil)) ?_
  obtain ⟨c129, h⟩ := ite_n h
  refine WL.w [0] rfl (Wanted.plain rfl) rfl rfl (.s 18 rfl (.s 20 rfl .nil)) (w_append (kd := (kSl kInt)) rfl el149 rfl gr26 c129) ?_
  rintro _ _ ⟨v130, rfl, rfl⟩
  refine av rfl rfl <| WL.nil <| QN.block <| QN.then_ <| W.region ?_
  obtain ⟨c131, h⟩ := ite_n h
  refine pk rfl 8 rfl (q_addR rfl c131) <| mv rfl rfl <| WL.nil ?_
  exact next0 v130 (x3 ++ [(t126.set (x8 : Int).toNat 0)]) (x8 + 1) _ h (.o4 rfl (.nil _))
 ·refine W.exit <| QX.then_ <| QX.then_ <| QX.here <| QN.then_ <| sr <| mv rfl rfl <| av rfl rfl <| nt <| W.ret ?_
  cases h
  exact QR.f1 rfl rfl (.t rfl) (.slc 0 rfl)
theorem difference_closed.con (k : Nat) (a0 : (List (List Int))) (r : Bool) (h : difference_closed k a0 = some r) : Con Tryz.prog 93 [] [SlcA (kSl kInt) a0] (RA (bA r)) := by
 unfold difference_closed at h
 refine Con.of (N := 18) Tryz.func93 rfl rfl rfl fun w0_ fg_ => sr <| ak rfl <| nt <| W.seq <| sr <| mv rfl rfl <| p1 rfl 4 rfl (q_len rfl elS149) <| mk_ rfl <| WL.nil ?_
 refine QN.then_ <| W.block ?_
 refine W.loop1 (Γ := Unit) (fun (_ : Unit) (x6 : Int) => [(0, SlcA (kSl kInt) a0), (5, iA (a0.length : Int)), (6, iA x6)]) (fun (_ : Unit) (_ : Int) => []) h () (.o2 rfl (.one rfl (.nil _))) rfl (fun rec0 K0 next0 _ x6 h => ?_)
 unfold difference_closed.b0 at h
 refine sr <| p2 rfl 6 rfl 5 rfl (q_int rfl rfl) <| nt <| W.seq ?_
 refine W.condP h rfl (fun hb110 h => ?_) (fun hb110 h => ?_)
 ·refine W.skip <| QN.then_ <| W.seq <| W.block <| sr <| mv rfl rfl <| av rfl rfl <| nx <| mv rfl rfl ?_
  refine mv rfl rfl ?_
  obtain ⟨c111, h⟩ := ite_n h
  refine p2 rfl 9 rfl 10 rfl (q_index rfl el149 rfl c111.1 c111.2) <| ld rfl rfl sh26 <| mv rfl rfl ?_
  obtain ⟨c112, h⟩ := ite_n h
  refine p2 rfl 12 rfl 13 rfl (q_index rfl el26 rfl c112.1 c112.2) <| ld rfl rfl sh3 <| pk rfl 15 rfl (q_int rfl rfl) <| WL.nil <| QN.weaken (env' := [(16, _), (6, _), (5, _), (0, _)]) (.o4 rfl (.nil _)) <| QN.then_ ?_
  refine W.condP h rfl (fun hb113 h => ?_) (fun hb113 h => ?_)
  ·refine sr <| ak rfl <| nt <| W.ret <| QR.block <| QR.then_ <| QR.then_ <| QR.block <| QR.then_ ?_
   cases h
   exact QR.f1 rfl rfl (.t rfl) (.id _)
  ·refine W.skip <| QN.block <| QN.then_ <| W.region ?_
   obtain ⟨c114, h⟩ := ite_n h
   refine pk rfl 6 rfl (q_addR rfl c114) <| mv rfl rfl <| WL.nil ?_
   exact next0 () (x6 + 1) _ h (.o2 rfl (.one rfl (.nil _)))
 ·refine W.exit <| QX.then_ <| QX.then_ <| QX.here <| QN.then_ <| sr <| ak rfl <| nt <| W.ret ?_
  cases h
  exact QR.f1 rfl rfl (.t rfl) (.id _)
theorem difference_longer.con (k : Nat) (a0 : (List (List Int))) (a1 : (List Arc)) (r : (List (List Int))) (h : difference_longer k a0 a1 = some r) : Con Tryz.prog 94 [] [SlcA (kSl kInt) a0, SlcA kArc a1] (RA (SlcA (kSl kInt) r)) := by
 unfold difference_longer at h
 refine Con.of (N := 75) Tryz.func94 rfl rfl rfl fun w0_ fg_ => sr <| ak rfl <| nx <| mv rfl rfl <| p1 rfl 10 rfl (q_len rfl elS149) ?_
 obtain ⟨c100, h⟩ := ite_n h
 refine pk rfl 11 rfl (q_subR rfl c100) <| av rfl rfl <| nx <| ak rfl <| nt <| W.seq <| sr <| mv rfl rfl ?_
 obtain ⟨c101, h⟩ := ite_n h
 refine pk rfl 13 rfl (q_addR rfl c101) <| mk_ rfl <| nt <| W.block <| W.to (StTo.newNilT 26 3 kInt) <| W.to (StTo.as 6 rfl Imp.nilHd) ?_
 refine W.loop2 (Γ := (Value × (List Value))) (fun (g0 : (Value × (List Value))) (_ : (List (List Int))) (x15 : Int) => [(0, SlcA (kSl kInt) a0), (1, SlcA kArc a1), (5, iA ((a0.length : Int) - 1)), (6, HdA g0.1), (14, iA (((a0.length : Int) - 1) + 1)), (15, iA x15)]) (fun (g0 : (Value × (List Value))) (x6 : (List (List Int))) (_ : Int) => [TbE 26 3 g0.1 kInt g0.2 x6]) h ((.slice none 0 0), []) (.o4 rfl (.o2 rfl (.nil _))) rfl (fun rec0 K0 next0 g0 x6 x15 h => ?_)
 unfold difference_longer.b0 at h
 refine sr <| p2 rfl 15 rfl 14 rfl (q_int rfl rfl) <| nt <| W.seq ?_
 refine W.condP h rfl (fun hb606 h => ?_) (fun hb606 h => ?_)
 ·refine W.skip <| QN.then_ <| W.seq <| W.block <| W.region <| mv rfl rfl <| WL.p rfl rfl rfl (.k .nil) (q_lit (kd := kInt) (ps := [(0, .const (.int .i64 1125899906842624))]) (xs := [.const (.int .i64 1125899906842624)]) («as» := [iA 1125899906842624]) (ys := [1125899906842624]) rfl rfl el26 rfl gr3 rfl rfl rfl (.cons (CellsOf.one rfl) .nil)) <| mv rfl rfl ?_
  obtain ⟨c607, h⟩ := ite_n h
  refine pk rfl 19 rfl (q_addR rfl c607) ?_
  obtain ⟨t608, ht608, h⟩ := bind_s h
  refine WL.w [] rfl (Wanted.plain rfl) rfl rfl (.s 18 rfl (.s 20 rfl .nil)) (w_callI (f := 142) (xs := [.tmp 18, .tmp 20]) («as» := [SlcA kInt [1125899906842624], iA (((a0.length : Int) - 1) + 1)]) rfl ca142 (slices_Repeat_int.con k [1125899906842624] (((a0.length : Int) - 1) + 1) t608 ht608) rfl (.cons (Imp.id _) (.cons (Imp.id _) .nil))) ?_
  rintro _ _ ⟨v609, rfl, rfl⟩
  refine p1 rfl 21 rfl (q_lit (kd := kVal) (ps := [(0, .tmp 21)]) (xs := [.tmp 21]) («as» := [HdA v609]) (ys := [v609]) rfl rfl el149 rfl gr26 rfl rfl rfl (.cons (CellsOf.one rfl) .nil)) ?_
  obtain ⟨c610, h⟩ := ite_n h
  refine WL.w [1, 0] rfl (Wanted.plain rfl) rfl rfl (.s 17 rfl (.s 22 rfl .nil)) (w_appendT (kd := kInt) rfl el149 gr26 c610) ?_
  rintro _ _ ⟨g611, rfl, rfl⟩
  refine av rfl rfl <| WL.nil <| QN.block <| QN.then_ <| W.region ?_
  obtain ⟨c613, h⟩ := ite_n h
  refine pk rfl 15 rfl (q_addR rfl c613) <| mv rfl rfl <| WL.nil ?_
  exact next0 (g611.1, g611.2) (x6 ++ [t608]) (x15 + 1) _ h (.o4 rfl (.o2 rfl (.nil _)))
 ·refine W.exit <| QX.then_ <| QX.then_ <| QX.here <| QN.then_ <| W.seq <| sr <| mv rfl rfl <| p1 rfl 25 rfl (q_len rfl elS146) <| mk_ rfl <| nt ?_
  refine W.block ?_
  refine W.loop2 (Γ := Unit) (fun (_ : Unit) (_ : (List (List Int))) (x27 : Int) => [(0, SlcA (kSl kInt) a0), (5, iA ((a0.length : Int) - 1)), (6, HdA g0.1), (25, SlcA kArc a1), (26, iA (a1.length : Int)), (27, iA x27)]) (fun (_ : Unit) (x6' : (List (List Int))) (_ : Int) => [TbE 26 3 g0.1 kInt g0.2 x6']) h () (.o4 rfl (.o2 rfl (.nil _))) rfl (fun rec1 K1 next1 _ x6' x27 h => ?_)
  unfold difference_longer.b1 at h
  refine sr <| p2 rfl 27 rfl 26 rfl (q_int rfl rfl) <| nt <| W.seq ?_
  refine W.condP h rfl (fun hb922 h => ?_) (fun hb922 h => ?_)
  ·refine W.skip <| QN.then_ <| W.seq <| W.block <| sr ?_
   obtain ⟨c923, h⟩ := ite_n h
   refine p2 rfl 25 rfl 27 rfl (q_index rfl el146 rfl c923.1 c923.2) <| lS rfl rfl sh155 rfl rfl <| WL.w [] rfl (Wanted.plain rfl) rfl rfl .nil (w_alloc rfl z155 (l := [iA 0, iA 0, iA 0, iA 0, iA 0]) rfl) ?_
   rintro _ _ ⟨b924, rfl, rfl⟩
   refine WL.w0 [0] rfl (Wanted.plain rfl) rfl (.s 8 rfl (.s 30 rfl .nil)) (w_store (L := [iA ((rd a1 x27).fuse.fTest), iA ((rd a1 x27).fuse.fSign), iA ((rd a1 x27).ffrom), iA ((rd a1 x27).fto), iA ((rd a1 x27).fmost)]) rfl sh155 (CellsOf.agg _) rfl rfl (leB rfl) rfl) ?_
   rintro _ _ ⟨rfl, rfl⟩
   refine WL.nil <| QN.to (StTo.still [0] 8 rfl rfl) <| QN.then_ <| sr <| mv rfl rfl ?_
   obtain ⟨c925, h⟩ := ite_n h
   refine pk rfl 31 rfl (q_addR rfl c925) <| mk_ rfl <| nt <| W.block ?_
   refine W.loop2 (Γ := Unit) (fun (_ : Unit) (_ : (List (List Int))) (x33 : Int) => [(0, SlcA (kSl kInt) a0), (5, iA ((a0.length : Int) - 1)), (6, HdA g0.1), (25, SlcA kArc a1), (26, iA (a1.length : Int)), (27, iA x27), (8, PtrA [iA ((rd a1 x27).fuse.fTest), iA ((rd a1 x27).fuse.fSign), iA ((rd a1 x27).ffrom), iA ((rd a1 x27).fto), iA ((rd a1 x27).fmost)]), (32, iA (((a0.length : Int) - 1) + 1)), (33, iA x33)]) (fun (_ : Unit) (x6'' : (List (List Int))) (_ : Int) => [TbE 26 3 g0.1 kInt g0.2 x6'']) h () (.o4 rfl (.o4 rfl (.one rfl (.nil _)))) rfl (fun rec2 K2 next2 _ x6'' x33 h => ?_)
   unfold difference_longer.b2 at h
   refine sr <| p2 rfl 33 rfl 32 rfl (q_int rfl rfl) <| nt <| W.seq ?_
   refine W.condP h rfl (fun hb1026 h => ?_) (fun hb1026 h => ?_)
   ·refine W.skip <| QN.then_ <| W.seq <| W.block <| sr <| mv rfl rfl <| av rfl rfl <| nx <| mv rfl rfl ?_
    refine fd rfl rfl fo155_2 rfl <| ld rfl rfl sh3 ?_
    obtain ⟨c1027, h⟩ := ite_n h
    refine p2 rfl 36 rfl 38 rfl (q_index rfl el149 rfl c1027.1 c1027.2) <| ld rfl rfl sh26 <| mv rfl rfl ?_
    obtain ⟨c1028, h⟩ := ite_n h
    refine p2 rfl 40 rfl 41 rfl (q_index rfl el26 rfl c1028.1 c1028.2) <| ld rfl rfl sh3 <| pk rfl 43 rfl (q_int rfl rfl) <| WL.nil <| QN.weaken (env' := [(44, _), (9, _), (33, _), (32, _), (8, _), (27, _), (26, _), (25, _), (6, _), (5, _), (0, _)]) (.o4 rfl (.o4 rfl (.o2 rfl (.one rfl (.nil _))))) <| QN.then_ ?_
    refine W.condP h rfl (fun hb1051 h => ?_) (fun hb1051 h => ?_)
    ·refine W.drawK [(0, false), (1, false), (2, false), (3, true), (4, true), (5, false), (6, false), (7, false), (8, false), (9, true), (10, true), (11, false), (12, true), (13, true), (14, false), (15, false), (16, false), (17, false), (18, false), (19, false), (20, false), (21, false), (22, false), (23, false), (24, false), (25, false), (26, true)] [27] (bm [0, 0, 2, 7, 15, 0, 0, 0, 128, 448, 960, 0, 4032, 8128, 0, 16384, 0, 0, 131072, 458752, 983040, 0, 4128768, 8323072, 16760832, 33554368, 67108863, 134217727]) mx (by kernel_rfl) <| dm rfl rfl rfl <| df rfl rfl rfl fo155_1 rfl <| dl rfl rfl rfl sh3 ?_
     obtain ⟨c1066, h⟩ := ite_n h
     refine DK.cons rfl rfl (.o rfl (.s 45 rfl (.s 47 rfl .nil)) rfl (q_indexT rfl el149 (j := 0) rfl c1066.1 c1066.2)) <| DK.cons rfl rfl (.o rfl (.s 48 rfl .nil) rfl (q_loadT rfl sh26 (j := 0) rfl c1066.1 c1066.2)) <| dm rfl rfl rfl <| dm rfl rfl rfl <| df rfl rfl rfl fo155_1 rfl <| dl rfl rfl rfl sh3 ?_
     obtain ⟨c1067, h⟩ := ite_n h
     refine DK.cons rfl rfl (.o rfl (.s 51 rfl (.s 53 rfl .nil)) rfl (q_indexT rfl el149 (j := 0) rfl c1067.1 c1067.2)) <| DK.cons rfl rfl (.o rfl (.s 54 rfl .nil) rfl (q_loadT rfl sh26 (j := 0) rfl c1067.1 c1067.2)) <| dm rfl rfl rfl ?_
     obtain ⟨c1068, h⟩ := ite_n h
     refine DK.cons rfl rfl (.o rfl (.s 55 rfl (.s 56 rfl .nil)) rfl (q_indexR rfl el26 (j := 0) rfl c1067.1 c1067.2 c1068.1 c1068.2)) <| DK.cons rfl rfl (.o rfl (.s 57 rfl .nil) rfl (q_loadR rfl sh3 (j := 0) rfl rfl c1067.1 c1067.2 c1068.1 c1068.2 rfl)) <| df rfl rfl rfl fo155_3 rfl <| dl rfl rfl rfl sh3 <| dm rfl rfl rfl <| df rfl rfl rfl fo155_2 rfl <| dl rfl rfl rfl sh3 ?_
     obtain ⟨c1069, h⟩ := ite_n h
     refine DK.cons rfl rfl (.p rfl (.s 61 rfl (.s 63 rfl .nil)) rfl (q_index rfl el149 rfl c1069.1 c1069.2)) <| dl rfl rfl rfl sh26 <| dm rfl rfl rfl ?_
     obtain ⟨c1070, h⟩ := ite_n h
     refine DK.cons rfl rfl (.p rfl (.s 65 rfl (.s 66 rfl .nil)) rfl (q_index rfl el26 rfl c1070.1 c1070.2)) <| dl rfl rfl rfl sh3 ?_
     obtain ⟨c1071, h⟩ := ite_n h
     refine DK.cons rfl rfl (.p rfl (.s 60 rfl (.s 68 rfl .nil)) rfl (q_addR rfl c1071)) <| DK.cons rfl rfl (.p rfl (.s 58 rfl (.s 69 rfl .nil)) rfl (q_min rfl)) ?_
     obtain ⟨c1072, h⟩ := ite_n h
     refine DK.cons rfl rfl (.o rfl (.s 49 rfl (.s 50 rfl .nil)) rfl (q_indexR rfl el26 (j := 0) rfl c1066.1 c1066.2 c1072.1 c1072.2)) <| DK.nil <| CSteps.w0 [0] rfl rfl rfl (.s 71 rfl (.s 70 rfl .nil)) rfl (w_storeR (kd := kInt) (z := (minI (rd (rd x6'' ((rd a1 x27).ffrom)) x33) ((rd a1 x27).fmost + (rd (rd a0 ((rd a1 x27).fto)) x33)))) rfl sh3 (CellsOf.one rfl) rfl rfl rfl c1066.1 c1066.2 c1072.1 c1072.2 rfl rfl) ?_
     rintro _ _ ⟨rfl, rfl⟩
     refine CSteps.nil <| QN.block <| QN.weaken (env' := [(33, _), (32, _), (8, _), (27, _), (26, _), (25, _), (6, _), (5, _), (0, _)]) (.o4 rfl (.o4 rfl (.one rfl (.nil _)))) <| QN.then_ <| W.region ?_
     obtain ⟨c1073, h⟩ := ite_n h
     refine pk rfl 33 rfl (q_addR rfl c1073) <| mv rfl rfl <| WL.nil ?_
     exact next2 () (x6''.set ((rd a1 x27).ffrom : Int).toNat ((rd x6'' ((rd a1 x27).ffrom)).set (x33 : Int).toNat (minI (rd (rd x6'' ((rd a1 x27).ffrom)) x33) ((rd a1 x27).fmost + (rd (rd a0 ((rd a1 x27).fto)) x33))))) (x33 + 1) _ h (.o4 rfl (.o4 rfl (.one rfl (.nil _))))
    ·refine W.skip <| QN.block <| QN.then_ <| W.region ?_
     obtain ⟨c1074, h⟩ := ite_n h
     refine pk rfl 33 rfl (q_addR rfl c1074) <| mv rfl rfl <| WL.nil ?_
     exact next2 () x6'' (x33 + 1) _ h (.o4 rfl (.o4 rfl (.one rfl (.nil _))))
   ·refine W.exit <| QX.then_ <| QX.then_ <| QX.here <| QN.block <| QN.then_ <| W.region ?_
    obtain ⟨c1075, h⟩ := ite_n h
    refine pk rfl 27 rfl (q_addR rfl c1075) <| mv rfl rfl <| WL.nil ?_
    exact next1 () x6'' (x27 + 1) _ h (.o4 rfl (.o2 rfl (.nil _)))
  ·refine W.exit <| QX.then_ <| QX.then_ <| QX.here <| QN.then_ <| sr <| mv rfl rfl <| av rfl rfl <| WL.nil <| QN.weaken (env' := [(4, _)]) (.one rfl (.nil _)) <| QN.then_ <| W.ret ?_
   cases h
   exact QR.f1 rfl rfl (.t rfl) (.tab 0 rfl)
theorem difference_Refute.con (k : Nat) (a0 : Int) (a1 : (List Test)) (r : ((List Use) × Int)) (h : difference_Refute k a0 a1 = some r) : Con Tryz.prog 44 [] [iA a0, SlcA kTest a1] (RA (TupA [SlcA kUse r.1, iA r.2])) := by
 unfold difference_Refute at h
 refine Con.of (N := 115) Tryz.func44 rfl rfl rfl fun w0_ fg_ => sr <| ak rfl <| ak rfl <| nt <| W.seq <| sr <| mv rfl rfl <| mv rfl rfl ?_
 obtain ⟨t100, ht100, h⟩ := bind_s h
 refine p2 rfl 20 rfl 21 rfl (q_call (f := 56) (A := iA t100) (xs := [.tmp 20, .tmp 21]) («as» := [iA a0, SlcA kTest a1]) rfl ca56 (difference_Valid.con k a0 a1 t100 ht100) rfl) <| av rfl rfl <| nx <| mv rfl rfl <| pk rfl 23 rfl (q_int rfl rfl) <| nt ?_
 refine W.condP h rfl (fun hb101 h => ?_) (fun hb101 h => ?_)
 ·refine sr <| mv rfl rfl <| ak rfl <| av rfl rfl <| WL.nil <| QN.weaken (env' := [(5, _), (4, _)]) (.o2 rfl (.nil _)) <| QN.then_ <| W.ret <| QR.then_ ?_
  cases h
  exact QR.f2 rfl rfl (.t rfl) (.t rfl) (.imp (Imp.tup (.cons (Imp.nil kUse) (.cons (Imp.id _) .nil))))
 ·refine W.skip <| QN.weaken (env' := [(1, _), (0, _)]) (.o2 rfl (.nil _)) <| QN.then_ <| sr <| mv rfl rfl ?_
  obtain ⟨t102, ht102, h⟩ := bind_s h
  refine p1 rfl 26 rfl (q_call (f := 90) (A := SlcA kArc t102) (xs := [.tmp 26]) («as» := [SlcA kTest a1]) rfl ca90 (difference_arcs.con k a1 t102 ht102) rfl) <| av rfl rfl <| nt <| W.seq <| sr <| mv rfl rfl <| mv rfl rfl ?_
  obtain ⟨t103, ht103, h⟩ := bind_s h
  refine p2 rfl 29 rfl 30 rfl (q_call (f := 91) (A := TupA [SlcA kInt t103.1, bA t103.2]) (xs := [.tmp 29, .tmp 30]) («as» := [iA a0, SlcA kArc t102]) rfl ca91 (difference_distances.con k a0 t102 t103 ht103) rfl) <| mv rfl rfl <| p1 rfl 28 rfl (q_extract rfl rfl) <| p1 rfl 28 rfl (q_extract rfl rfl) <| av rfl rfl <| av rfl rfl <| WL.nil <| QN.weaken (env' := [(9, _), (7, _), (0, _)]) (.o2 rfl (.one rfl (.nil _))) <| QN.then_ <| sr <| mv rfl rfl <| WL.nil ?_
  refine QN.then_ ?_
  refine W.condP h rfl (fun hb104 h => ?_) (fun hb104 h => ?_)
  ·refine sr <| ak rfl <| ak rfl <| nt <| W.ret <| QR.then_ ?_
   cases h
   exact QR.f2 rfl rfl (.t rfl) (.t rfl) (.imp (Imp.tup (.cons (Imp.nil kUse) (.cons (Imp.id _) .nil))))
  ·refine W.skip <| QN.then_ <| sr <| mv rfl rfl ?_
   obtain ⟨t105, ht105, h⟩ := bind_s h
   refine p1 rfl 35 rfl (q_call (f := 92) (A := SlcA (kSl kInt) t105) (xs := [.tmp 35]) («as» := [iA a0]) rfl ca92 (difference_fresh.con k a0 t105 ht105) rfl) <| WL.w [] rfl (Wanted.plain rfl) rfl rfl (.s 36 rfl .nil) (w_lit (kd := (kSl (kSl kInt))) (ps := [(0, .tmp 36)]) (xs := [.tmp 36]) («as» := [SlcA (kSl kInt) t105]) (ys := [t105]) rfl rfl el151 rfl gr149 rfl rfl rfl (.cons (CellsOf.one rfl) .nil)) ?_
   rintro _ _ ⟨v106, rfl, rfl⟩
   refine av rfl rfl <| nt <| W.seq <| W.block ?_
   refine W.loop1 (Γ := Value) (fun (g0 : Value) (_ : (List (List (List Int)))) => [(7, SlcA kArc t102), (10, HdA g0)]) (fun (g0 : Value) (x10 : (List (List (List Int)))) => [SlE 149 g0 (kSl (kSl kInt)) x10]) h v106 (.o2 rfl (.nil _)) rfl (fun rec0 K0 next0 g0 x10 h => ?_)
   unfold difference_Refute.b0 at h
   refine W.seq <| sr <| mv rfl rfl <| mv rfl rfl <| WL.q (Wanted.plain rfl) rfl rfl (.s 39 rfl .nil) (q_lenO rfl elS151 (i := 0) rfl) ?_
   obtain ⟨c2569, h⟩ := ite_n h
   refine pk rfl 40 rfl (q_subR rfl c2569) ?_
   obtain ⟨c2570, h⟩ := ite_n h
   refine WL.q (Wanted.plain rfl) rfl rfl (.s 38 rfl (.s 41 rfl .nil)) (q_indexO rfl el151 (j := 0) rfl c2570.1 c2570.2) <| WL.q (Wanted.plain rfl) rfl rfl (.s 42 rfl .nil) (q_loadEl rfl sh149 (j := 0) rfl rfl c2570.1 c2570.2 rfl) ?_
   obtain ⟨t2571, ht2571, h⟩ := bind_s h
   refine p1 rfl 43 rfl (q_call (f := 93) (A := bA t2571) (xs := [.tmp 43]) («as» := [SlcA (kSl kInt) (rd x10 ((x10.length : Int) - 1))]) rfl ca93 (difference_closed.con k (rd x10 ((x10.length : Int) - 1)) t2571 ht2571) rfl) <| p1 rfl 44 rfl (q_not rfl) <| WL.nil <| QN.weaken (env' := [(45, _), (10, _), (7, _)]) (.o2 rfl (.one rfl (.nil _))) <| QN.then_ ?_
   refine W.condP h rfl (fun hb2572 h => ?_) (fun hb2572 h => ?_)
   ·refine W.skip <| QN.then_ <| W.block <| W.region <| mv rfl rfl <| mv rfl rfl <| mv rfl rfl <| WL.q (Wanted.plain rfl) rfl rfl (.s 48 rfl .nil) (q_lenO rfl elS151 (i := 0) rfl) ?_
    obtain ⟨c2573, h⟩ := ite_n h
    refine pk rfl 49 rfl (q_subR rfl c2573) ?_
    obtain ⟨c2574, h⟩ := ite_n h
    refine WL.q (Wanted.plain rfl) rfl rfl (.s 47 rfl (.s 50 rfl .nil)) (q_indexO rfl el151 (j := 0) rfl c2574.1 c2574.2) <| WL.q (Wanted.plain rfl) rfl rfl (.s 51 rfl .nil) (q_loadEl rfl sh149 (j := 0) rfl rfl c2574.1 c2574.2 rfl) <| mv rfl rfl ?_
    obtain ⟨t2575, ht2575, h⟩ := bind_s h
    refine p2 rfl 52 rfl 53 rfl (q_call (f := 94) (A := SlcA (kSl kInt) t2575) (xs := [.tmp 52, .tmp 53]) («as» := [SlcA (kSl kInt) (rd x10 ((x10.length : Int) - 1)), SlcA kArc t102]) rfl ca94 (difference_longer.con k (rd x10 ((x10.length : Int) - 1)) t102 t2575 ht2575) rfl) <| p1 rfl 54 rfl (q_lit (kd := (kSl (kSl kInt))) (ps := [(0, .tmp 54)]) (xs := [.tmp 54]) («as» := [SlcA (kSl kInt) t2575]) (ys := [t2575]) rfl rfl el151 rfl gr149 rfl rfl rfl (.cons (CellsOf.one rfl) .nil)) ?_
    obtain ⟨c2576, h⟩ := ite_n h
    refine WL.w [0] rfl (Wanted.plain rfl) rfl rfl (.s 46 rfl (.s 55 rfl .nil)) (w_append (kd := (kSl (kSl kInt))) rfl el151 rfl gr149 c2576) ?_
    rintro _ _ ⟨v2577, rfl, rfl⟩
    refine av rfl rfl <| WL.nil <| QN.block ?_
    exact next0 v2577 (x10 ++ [t2575]) _ h (.o2 rfl (.nil _))
   ·refine W.exit <| QX.then_ <| QX.then_ <| QX.here <| QN.then_ <| sr <| ak rfl <| nx <| ak rfl ?_
    refine ak rfl <| ak rfl <| nt <| W.seq <| sr <| mv rfl rfl <| WL.q (Wanted.plain rfl) rfl rfl (.s 57 rfl .nil) (q_lenO rfl elS151 (i := 0) rfl) ?_
    obtain ⟨c2578, h⟩ := ite_n h
    refine pk rfl 58 rfl (q_subR rfl c2578) <| av rfl rfl <| nt <| W.block <| W.to (StTo.newNil 52 kUse) <| W.to (StTo.as 11 rfl Imp.nilHd) <| W.order [1, 0] rfl ?_
    refine W.loop5 (Γ := Value) (fun (g1 : Value) (_ : (List Use)) (x12 : Int) (x13 : Int) (x14 : Int) (x15 : Int) => [(7, SlcA kArc t102), (10, HdA g0), (11, HdA g1), (12, iA x12), (13, iA x13), (14, iA x14), (15, iA x15)]) (fun (g1 : Value) (x11 : (List Use)) (_ : Int) (_ : Int) (_ : Int) (_ : Int) => [SlE 149 g0 (kSl (kSl kInt)) x10, SlE 52 g1 kUse x11]) h (.slice none 0 0) (.o4 rfl (.o2 rfl (.one rfl (.nil _)))) rfl (fun rec1 K1 next1 g1 x11 x12 x13 x14 x15 h => ?_)
    unfold difference_Refute.b1 at h
    refine W.seq <| sr <| mv rfl rfl <| pk rfl 60 rfl (q_int rfl rfl) <| nt ?_
    refine W.condP h rfl (fun hb3396 h => ?_) (fun hb3396 h => ?_)
    ·refine W.skip <| QN.then_ <| W.seq <| W.block <| sr <| mv rfl rfl <| p1 rfl 64 rfl (q_len rfl elS146) <| mk_ rfl <| nt ?_
     refine W.jn4 (Γ := Value) (fun (g3595 : Value) (_ : (List Use)) (x12' : Int) (x13' : Int) (x14' : Int) => [(7, SlcA kArc t102), (10, HdA g0), (15, iA x15), (11, HdA g3595), (12, iA x12'), (13, iA x13'), (14, iA x14')]) (fun (g3595 : Value) (x11' : (List Use)) (_ : Int) (_ : Int) (_ : Int) => [SlE 149 g0 (kSl (kSl kInt)) x10, SlE 52 g3595 kUse x11']) h (fun g3595 x11' x12' x13' x14' h => ?_) (fun j3598 Kj3598 h => ?_)
     ·refine QN.block <| QN.then_ <| W.region <| mv rfl rfl ?_
      obtain ⟨c3599, h⟩ := ite_n h
      refine pk rfl 62 rfl (q_subR rfl c3599) <| av rfl rfl <| WL.nil ?_
      exact next1 g3595 x11' x12' x13' x14' (x15 - 1) _ h (.o4 rfl (.o2 rfl (.one rfl (.nil _))))
     ·refine W.block ?_
      refine W.loop1 (Γ := Unit) (fun (_ : Unit) (x66 : Int) => [(7, SlcA kArc t102), (10, HdA g0), (11, HdA g1), (12, iA x12), (13, iA x13), (14, iA x14), (15, iA x15), (64, SlcA kArc t102), (65, iA (t102.length : Int)), (66, iA x66)]) (fun (_ : Unit) (_ : Int) => [SlE 149 g0 (kSl (kSl kInt)) x10, SlE 52 g1 kUse x11]) h () (.o4 rfl (.o4 rfl (.o2 rfl (.nil _)))) rfl (fun rec2 K2 next2 _ x66 h => ?_)
      unfold difference_Refute.b2 at h
      refine sr <| p2 rfl 66 rfl 65 rfl (q_int rfl rfl) <| nt <| W.seq ?_
      refine W.condP h rfl (fun hb3732 h => ?_) (fun hb3732 h => ?_)
      ·refine W.skip <| QN.then_ <| W.seq <| W.block <| sr ?_
       obtain ⟨c3764, h⟩ := ite_n h
       refine p2 rfl 64 rfl 66 rfl (q_index rfl el146 rfl c3764.1 c3764.2) <| lS rfl rfl sh155 rfl rfl <| WL.w [] rfl (Wanted.plain rfl) rfl rfl .nil (w_alloc rfl z155 (l := [iA 0, iA 0, iA 0, iA 0, iA 0]) rfl) ?_
       rintro _ _ ⟨b3765, rfl, rfl⟩
       refine WL.w0 [0] rfl (Wanted.plain rfl) rfl (.s 17 rfl (.s 69 rfl .nil)) (w_store (L := [iA ((rd t102 x66).fuse.fTest), iA ((rd t102 x66).fuse.fSign), iA ((rd t102 x66).ffrom), iA ((rd t102 x66).fto), iA ((rd t102 x66).fmost)]) rfl sh155 (CellsOf.agg _) rfl rfl (leB rfl) rfl) ?_
       rintro _ _ ⟨rfl, rfl⟩
       refine WL.nil <| QN.to (StTo.still [0] 17 rfl rfl) <| QN.then_ <| sr <| mv rfl rfl <| av rfl rfl <| nt <| W.seq <| sr <| mv rfl rfl ?_
       refine pk rfl 71 rfl (q_int rfl rfl) <| nt ?_
       refine W.jn1 (Γ := Unit) (fun (_ : Unit) (x18 : Int) => [(7, SlcA kArc t102), (10, HdA g0), (11, HdA g1), (12, iA x12), (13, iA x13), (14, iA x14), (15, iA x15), (64, SlcA kArc t102), (65, iA (t102.length : Int)), (66, iA x66), (17, PtrA [iA ((rd t102 x66).fuse.fTest), iA ((rd t102 x66).fuse.fSign), iA ((rd t102 x66).ffrom), iA ((rd t102 x66).fto), iA ((rd t102 x66).fmost)]), (18, iA x18)]) (fun (_ : Unit) (_ : Int) => [SlE 149 g0 (kSl (kSl kInt)) x10, SlE 52 g1 kUse x11]) h (fun _ x18 h => ?_) (fun j3770 Kj3770 h => ?_)
       ·refine QN.then_ <| W.seq <| W.drawK [(0, false), (1, false), (2, true), (3, true), (4, false), (5, false), (6, false), (7, false), (8, false), (9, false), (10, false), (11, false)] [] (bm [0, 0, 3, 7, 0, 16, 63, 127, 0, 511, 1023, 2047]) mx (by kernel_rfl) <| dm rfl rfl rfl <| dm rfl rfl rfl ?_
        obtain ⟨c3777, h⟩ := ite_n h
        refine DK.cons rfl rfl (.o rfl (.s 79 rfl (.s 80 rfl .nil)) rfl (q_indexO rfl el151 (j := 0) rfl c3777.1 c3777.2)) <| DK.cons rfl rfl (.o rfl (.s 81 rfl .nil) rfl (q_loadEl rfl sh149 (j := 0) rfl rfl c3777.1 c3777.2 rfl)) <| df rfl rfl rfl fo155_2 rfl <| dl rfl rfl rfl sh3 ?_
        obtain ⟨c3778, h⟩ := ite_n h
        refine DK.cons rfl rfl (.p rfl (.s 82 rfl (.s 84 rfl .nil)) rfl (q_index rfl el149 rfl c3778.1 c3778.2)) <| dl rfl rfl rfl sh26 <| dm rfl rfl rfl ?_
        obtain ⟨c3779, h⟩ := ite_n h
        refine DK.cons rfl rfl (.p rfl (.s 86 rfl (.s 87 rfl .nil)) rfl (q_index rfl el26 rfl c3779.1 c3779.2)) <| dl rfl rfl rfl sh3 <| DK.cons rfl rfl (.p rfl (.s 89 rfl .nil) rfl (q_assign rfl)) <| DK.nil <| CSteps.nil <| QN.weaken (env' := [(19, _), (18, _), (17, _), (66, _), (65, _), (64, _), (15, _), (14, _), (13, _), (12, _), (11, _), (10, _), (7, _)]) (.o4 rfl (.o4 rfl (.o4 rfl (.one rfl (.nil _))))) <| QN.then_ <| W.seq ?_
        refine W.jn1 (Γ := Unit) (fun (_ : Unit) (x100 : Bool) => [(7, SlcA kArc t102), (10, HdA g0), (11, HdA g1), (12, iA x12), (13, iA x13), (14, iA x14), (15, iA x15), (64, SlcA kArc t102), (65, iA (t102.length : Int)), (66, iA x66), (17, PtrA [iA ((rd t102 x66).fuse.fTest), iA ((rd t102 x66).fuse.fSign), iA ((rd t102 x66).ffrom), iA ((rd t102 x66).fto), iA ((rd t102 x66).fmost)]), (18, iA x18), (100, bA x100)]) (fun (_ : Unit) (_ : Bool) => [SlE 149 g0 (kSl (kSl kInt)) x10, SlE 52 g1 kUse x11]) h (fun _ x100 h => ?_) (fun j3784 Kj3784 h => ?_)
        ·refine QN.then_ ?_
         refine W.condP h rfl (fun hb3785 h => ?_) (fun hb3785 h => ?_)
         ·refine sr <| mv rfl rfl <| fd rfl rfl fo155_0 rfl <| lS rfl rfl sh52 rfl rfl <| p1 rfl 103 rfl (q_lit (kd := kUse) (ps := [(0, .tmp 103)]) (xs := [.tmp 103]) («as» := [AggA [iA ((rd t102 x66).fuse.fTest), iA ((rd t102 x66).fuse.fSign)]]) (ys := [(rd t102 x66).fuse]) rfl rfl el45 rfl gr52 rfl rfl rfl (.cons (CellsOf.agg _) .nil)) ?_
          obtain ⟨c3786, h⟩ := ite_n h
          refine WL.w [1] rfl (Wanted.plain rfl) rfl rfl (.s 101 rfl (.s 104 rfl .nil)) (w_append (kd := kUse) rfl el45 rfl gr52 c3786) ?_
          rintro _ _ ⟨v3787, rfl, rfl⟩
          refine av rfl rfl <| WL.nil <| QN.weaken (env' := [(11, _), (18, _), (17, _), (15, _), (14, _), (10, _), (7, _)]) (.o4 rfl (.o2 rfl (.one rfl (.nil _)))) <| QN.then_ <| W.seq <| W.drawK [(0, false), (1, false), (2, false), (3, false), (4, false), (5, false), (6, false), (7, false), (8, false), (9, false)] [] (bm [0, 0, 2, 0, 0, 16, 56, 1, 135, 511]) mx (by kernel_rfl) <| dm rfl rfl rfl <| df rfl rfl rfl fo155_2 rfl <| dl rfl rfl rfl sh3 <| dm rfl rfl rfl <| df rfl rfl rfl fo155_3 rfl <| dl rfl rfl rfl sh3 ?_
          obtain ⟨c3790, h⟩ := ite_n h
          refine DK.cons rfl rfl (.p rfl (.s 109 rfl (.s 111 rfl .nil)) rfl (q_addR rfl c3790)) <| DK.cons rfl rfl (.p rfl (.s 106 rfl .nil) rfl (q_assign rfl)) <| DK.cons rfl rfl (.p rfl (.s 108 rfl .nil) rfl (q_assign rfl)) <| DK.cons rfl rfl (.p rfl (.s 112 rfl .nil) rfl (q_assign rfl)) <| DK.nil <| CSteps.nil <| QN.weaken (env' := [(14, _), (13, _), (12, _), (11, _), (15, _), (10, _), (7, _)]) (.o4 rfl (.o2 rfl (.one rfl (.nil _)))) <| QN.then_ <| W.exit <| QX.there rfl <| QX.then_ <| QX.then_ <| QX.here ?_
          refine QN.order [1, 0] rfl ?_
          exact QN.weaken (.o4 rfl (.o2 rfl (.one rfl (.nil _)))) (Kj3598 v3787 (x11 ++ [(rd t102 x66).fuse]) x18 ((rd t102 x66).fto) (x14 + (rd t102 x66).fmost) h)
         ·refine W.skip <| QN.block <| QN.then_ <| W.region ?_
          obtain ⟨c3791, h⟩ := ite_n h
          refine pk rfl 66 rfl (q_addR rfl c3791) <| mv rfl rfl <| WL.nil ?_
          exact next2 () (x66 + 1) _ h (.o4 rfl (.o4 rfl (.o2 rfl (.nil _))))
        ·refine W.region <| mv rfl rfl <| pk rfl 90 rfl (q_int rfl rfl) <| mv rfl rfl ?_
         rcases bif_s h with ⟨hb3792, h⟩ | ⟨hb3792, h⟩
         ·refine wm rfl rfl rfl hb3792 rfl rfl <| wf rfl rfl rfl hb3792 rfl rfl fo155_3 rfl <| wl rfl rfl rfl hb3792 rfl rfl sh3 ?_
          obtain ⟨c3793, h⟩ := ite_n h
          refine wq rfl rfl rfl hb3792 (.s 93 rfl (.s 95 rfl .nil)) (q_addR rfl c3793).o <| wm rfl rfl rfl hb3792 rfl rfl ?_
          obtain ⟨c3794, h⟩ := ite_n h
          refine wq rfl rfl rfl hb3792 (.s 96 rfl (.s 97 rfl .nil)) (q_addR rfl c3794).o <| wq rfl rfl rfl hb3792 (.s 98 rfl (.k .nil)) (q_int rfl rfl).o <| p2 rfl 92 rfl 99 rfl (q_pickT rfl hb3792) <| WL.nil ?_
          exact QN.weaken (.o4 rfl (.o4 rfl (.o4 rfl (.one rfl (.nil _))))) (Kj3784 () (decide (((x14 + (rd t102 x66).fmost) + (rd (rd (rd x10 x15) ((rd t102 x66).fto)) x18)) < 0)) h)
         ·refine sk rfl rfl rfl hb3792 <| sk rfl rfl rfl hb3792 <| sk rfl rfl rfl hb3792 <| sk rfl rfl rfl hb3792 <| sk rfl rfl rfl hb3792 <| sk rfl rfl rfl hb3792 <| sk rfl rfl rfl hb3792 <| pk rfl 92 rfl (q_pickF rfl hb3792) <| WL.nil ?_
          exact QN.weaken (.o4 rfl (.o4 rfl (.o4 rfl (.one rfl (.nil _))))) (Kj3784 () false h)
       ·refine W.condP h rfl (fun hb3795 h => ?_) (fun hb3795 h => ?_)
        ·refine W.region <| fd rfl rfl fo155_1 rfl <| ld rfl rfl sh3 <| av rfl rfl <| WL.nil ?_
         exact QN.weaken (.o4 rfl (.o4 rfl (.o4 rfl (.nil _)))) (Kj3770 () ((rd t102 x66).ffrom) h)
        ·refine sr <| fd rfl rfl fo155_1 rfl <| ld rfl rfl sh3 <| mv rfl rfl <| p2 rfl 76 rfl 77 rfl (q_int rfl rfl) <| WL.nil <| QN.weaken (env' := [(78, _), (18, _), (17, _), (66, _), (65, _), (64, _), (15, _), (14, _), (13, _), (12, _), (11, _), (10, _), (7, _)]) (.o4 rfl (.o4 rfl (.o4 rfl (.one rfl (.nil _))))) <| QN.then_ ?_
         refine W.condP h rfl (fun hb3796 h => ?_) (fun hb3796 h => ?_)
         ·refine W.exit <| QX.then_ <| QX.here <| QN.then_ <| W.region ?_
          obtain ⟨c3797, h⟩ := ite_n h
          refine pk rfl 66 rfl (q_addR rfl c3797) <| mv rfl rfl <| WL.nil ?_
          exact next2 () (x66 + 1) _ h (.o4 rfl (.o4 rfl (.o2 rfl (.nil _))))
         ·refine W.skip ?_
          exact QN.weaken (.o4 rfl (.o4 rfl (.o4 rfl (.nil _)))) (Kj3770 () x12 h)
      ·refine W.exit <| QX.then_ <| QX.then_ <| QX.here ?_
       exact QN.weaken (.o4 rfl (.o2 rfl (.one rfl (.nil _)))) (Kj3598 g1 x11 x12 x13 x14 h)
    ·refine W.exit <| QX.then_ <| QX.then_ <| QX.here <| QN.weaken (env' := [(11, _)]) (.one rfl (.nil _)) <| QN.then_ <| sr <| mv rfl rfl <| av rfl rfl <| ak rfl <| nt ?_
     refine W.ret ?_
     cases h
     exact QR.f2 rfl rfl (.t rfl) (.t rfl) (.tup (.cons (.slc 1 rfl) (.cons (.id _) .nil)))
theorem attribute_Contradiction.con (k : Nat) (a0 : Types) (a1 : Pattern) (r : ((List Use) × Int)) (h : attribute_Contradiction k a0 a1 = some r) : Con Tryz.prog 15 [] [AggA [SlcA kNodeType a0.fNodes, SlcA kEdgeType a0.fEdges], AggA [SlcA kInt a1.fGraph.fNodes, SlcA kEdge a1.fGraph.fEdges, SlcA kSlot a1.fSlots, iA a1.fVars, SlcA kTest a1.fTests]] (RA (TupA [SlcA kUse r.1, iA r.2])) := by
 unfold attribute_Contradiction at h
 refine Con.of (N := 21) Tryz.func15 rfl rfl rfl fun w0_ fg_ => sr <| p1 rfl 0 rfl (q_box rfl (CellsOf.agg _)) <| p1 rfl 1 rfl (q_box rfl (CellsOf.agg _)) <| ak rfl <| ak rfl <| nt <| W.seq <| sr <| lS rfl rfl sh35 rfl rfl ?_
 refine lS rfl rfl sh42 rfl rfl ?_
 obtain ⟨t100, ht100, h⟩ := bind_s h
 refine p2 rfl 7 rfl 8 rfl (q_call (f := 18) (A := iA t100) (xs := [.tmp 7, .tmp 8]) («as» := [AggA [SlcA kNodeType a0.fNodes, SlcA kEdgeType a0.fEdges], AggA [SlcA kInt a1.fGraph.fNodes, SlcA kEdge a1.fGraph.fEdges, SlcA kSlot a1.fSlots, iA a1.fVars, SlcA kTest a1.fTests]]) rfl ca18 (attribute_Valid.con k a0 a1 t100 ht100) rfl) <| av rfl rfl <| WL.nil <| QN.weaken (env' := [(6, _), (3, _), (2, _)]) (.o2 rfl (.one rfl (.nil _))) <| QN.then_ <| sr <| mv rfl rfl <| pk rfl 10 rfl (q_int rfl rfl) <| nt ?_
 refine W.condP h rfl (fun hb101 h => ?_) (fun hb101 h => ?_)
 ·refine sr <| mv rfl rfl <| ak rfl <| av rfl rfl <| nt <| W.ret <| QR.then_ ?_
  cases h
  exact QR.f2 rfl rfl (.t rfl) (.t rfl) (.imp (Imp.tup (.cons (Imp.nil kUse) (.cons (Imp.id _) .nil))))
 ·refine W.skip <| QN.then_ <| W.seq <| W.drawK [(0, false), (1, false), (2, false), (3, false), (4, false), (5, false), (6, false), (7, false), (8, false), (9, false)] [] (bm [0, 1, 0, 0, 12, 31, 63, 63, 255, 511]) mx (by kernel_rfl) <| df rfl rfl rfl fo42_2 rfl <| dl rfl rfl rfl sh3 <| DK.cons rfl rfl (.p rfl (.s 2 rfl .nil) rfl (q_loadS rfl sh35 (leB rfl) rfl)) <| DK.cons rfl rfl (.p rfl (.s 3 rfl .nil) rfl (q_loadS rfl sh42 (leB rfl) rfl)) ?_
  obtain ⟨t106, ht106, h⟩ := bind_s h
  refine DK.cons rfl rfl (.p rfl (.s 15 rfl (.s 16 rfl .nil)) rfl (q_call (f := 45) (A := SlcA kTest t106) (xs := [.tmp 15, .tmp 16]) («as» := [AggA [SlcA kNodeType a0.fNodes, SlcA kEdgeType a0.fEdges], AggA [SlcA kInt a1.fGraph.fNodes, SlcA kEdge a1.fGraph.fEdges, SlcA kSlot a1.fSlots, iA a1.fVars, SlcA kTest a1.fTests]]) rfl ca45 (attribute_system.con k a0 a1 t106 ht106) rfl)) ?_
  obtain ⟨t107, ht107, h⟩ := bind_s h
  refine DK.cons rfl rfl (.p rfl (.s 14 rfl (.s 17 rfl .nil)) rfl (q_call (f := 44) (A := TupA [SlcA kUse t107.1, iA t107.2]) (xs := [.tmp 14, .tmp 17]) («as» := [iA a1.fVars, SlcA kTest t106]) rfl ca44 (difference_Refute.con k a1.fVars t106 t107 ht107) rfl)) <| DK.cons rfl rfl (.p rfl (.s 18 rfl .nil) rfl (q_extract rfl rfl)) <| DK.cons rfl rfl (.p rfl (.s 18 rfl .nil) rfl (q_extract rfl rfl)) <| DK.cons rfl rfl (.p rfl (.s 19 rfl .nil) rfl (q_assign rfl)) <| DK.cons rfl rfl (.p rfl (.s 20 rfl .nil) rfl (q_assign rfl)) <| DK.nil <| CSteps.nil <| QN.weaken (env' := [(5, _), (4, _)]) (.o2 rfl (.nil _)) <| QN.then_ <| W.ret ?_
  cases h
  exact QR.f2 rfl rfl (.t rfl) (.t rfl) (.id _)
theorem ref05_SameInts.con (k : Nat) (a0 : (List Int)) (a1 : (List Int)) (r : Bool) (h : ref05_SameInts k a0 a1 = some r) : Con Tryz.prog 116 [] [SlcA kInt a0, SlcA kInt a1] (RA (bA r)) := by
 unfold ref05_SameInts at h
 refine Con.of (N := 26) Tryz.func116 rfl rfl rfl fun w0_ fg_ => sr <| ak rfl <| nt <| W.seq <| sr <| mv rfl rfl <| p1 rfl 6 rfl (q_len rfl elS26) <| mv rfl rfl <| p1 rfl 8 rfl (q_len rfl elS26) ?_
 refine p2 rfl 7 rfl 9 rfl (q_int rfl rfl) <| nt ?_
 refine W.condP h rfl (fun hb100 h => ?_) (fun hb100 h => ?_)
 ·refine sr <| ak rfl <| WL.nil <| QN.weaken (env' := [(4, _)]) (.one rfl (.nil _)) <| QN.then_ <| W.ret <| QR.then_ ?_
  cases h
  exact QR.f1 rfl rfl (.t rfl) (.id _)
 ·refine W.skip <| QN.then_ <| W.seq <| sr <| ak rfl <| nt <| W.block ?_
  refine W.loop1 (Γ := Unit) (fun (_ : Unit) (x5 : Int) => [(0, SlcA kInt a0), (1, SlcA kInt a1), (5, iA x5)]) (fun (_ : Unit) (_ : Int) => []) h () (.o2 rfl (.one rfl (.nil _))) rfl (fun rec0 K0 next0 _ x5 h => ?_)
  unfold ref05_SameInts.b0 at h
  refine W.seq <| sr <| mv rfl rfl <| mv rfl rfl <| p1 rfl 12 rfl (q_len rfl elS26) <| p2 rfl 11 rfl 13 rfl (q_int rfl rfl) <| nt ?_
  refine W.condP h rfl (fun hb119 h => ?_) (fun hb119 h => ?_)
  ·refine W.skip <| QN.then_ <| W.seq <| W.block <| W.seq <| W.drawK [(0, false), (1, false), (2, false), (3, false), (4, false), (5, false), (6, false), (7, false), (8, false)] [] (bm [0, 0, 3, 7, 0, 0, 48, 112, 255]) mx (by kernel_rfl) <| dm rfl rfl rfl <| dm rfl rfl rfl ?_
   obtain ⟨c124, h⟩ := ite_n h
   refine DK.cons rfl rfl (.p rfl (.s 17 rfl (.s 18 rfl .nil)) rfl (q_index rfl el26 rfl c124.1 c124.2)) <| dl rfl rfl rfl sh3 <| dm rfl rfl rfl <| dm rfl rfl rfl ?_
   obtain ⟨c125, h⟩ := ite_n h
   refine DK.cons rfl rfl (.p rfl (.s 21 rfl (.s 22 rfl .nil)) rfl (q_index rfl el26 rfl c125.1 c125.2)) <| dl rfl rfl rfl sh3 <| DK.cons rfl rfl (.p rfl (.s 20 rfl (.s 24 rfl .nil)) rfl (q_int rfl rfl)) <| DK.nil <| CSteps.nil <| QN.weaken (env' := [(25, _), (5, _), (1, _), (0, _)]) (.o4 rfl (.nil _)) <| QN.then_ ?_
   refine W.condP h rfl (fun hb126 h => ?_) (fun hb126 h => ?_)
   ·refine sr <| ak rfl <| nt <| W.ret <| QR.block <| QR.then_ <| QR.then_ <| QR.block <| QR.then_ ?_
    cases h
    exact QR.f1 rfl rfl (.t rfl) (.id _)
   ·refine W.skip <| QN.block <| QN.then_ <| W.region <| mv rfl rfl ?_
    obtain ⟨c127, h⟩ := ite_n h
    refine pk rfl 15 rfl (q_addR rfl c127) <| av rfl rfl <| WL.nil ?_
    exact next0 () (x5 + 1) _ h (.o2 rfl (.one rfl (.nil _)))
  ·refine W.exit <| QX.then_ <| QX.then_ <| QX.here <| QN.weaken (env' := []) (.nil _) <| QN.then_ <| sr <| ak rfl <| nt <| W.ret ?_
   cases h
   exact QR.f1 rfl rfl (.t rfl) (.id _)
theorem ref21_SameMatch.con (k : Nat) (a0 : Match) (a1 : Match) (r : Bool) (h : ref21_SameMatch k a0 a1 = some r) : Con Tryz.prog 80 [] [AggA [SlcA kInt a0.fMorphism.fNodes, SlcA kInt a0.fMorphism.fEdges, SlcA kInt a0.fVars], AggA [SlcA kInt a1.fMorphism.fNodes, SlcA kInt a1.fMorphism.fEdges, SlcA kInt a1.fVars]] (RA (bA r)) := by
 unfold ref21_SameMatch at h
 refine Con.of (N := 28) Tryz.func80 rfl rfl rfl fun w0_ fg_ => sr <| p1 rfl 0 rfl (q_box rfl (CellsOf.agg _)) <| p1 rfl 1 rfl (q_box rfl (CellsOf.agg _)) <| ak rfl <| nt <| W.seq ?_
 refine W.jn1 (Γ := Unit) (fun (_ : Unit) (x4 : Bool) => [(4, bA x4)]) (fun (_ : Unit) (_ : Bool) => []) h (fun _ x4 h => ?_) (fun j106 Kj106 h => ?_)
 ·refine QN.then_ <| W.ret ?_
  cases h
  exact QR.f1 rfl rfl (.t rfl) (.id _)
 ·refine W.region <| fd rfl rfl fo76_0 rfl <| fd rfl rfl fo64_0 rfl <| ld rfl rfl sh26 <| fd rfl rfl fo76_0 rfl <| fd rfl rfl fo64_0 rfl <| ld rfl rfl sh26 ?_
  obtain ⟨t107, ht107, h⟩ := bind_s h
  refine p2 rfl 7 rfl 10 rfl (q_call (f := 116) (A := bA t107) (xs := [.tmp 7, .tmp 10]) («as» := [SlcA kInt a0.fMorphism.fNodes, SlcA kInt a1.fMorphism.fNodes]) rfl ca116 (ref05_SameInts.con k a0.fMorphism.fNodes a1.fMorphism.fNodes t107 ht107) rfl) <| mv rfl rfl ?_
  rcases bif_s h with ⟨hb108, h⟩ | ⟨hb108, h⟩
  ·refine wf rfl rfl rfl hb108 rfl rfl fo76_0 rfl <| wf rfl rfl rfl hb108 rfl rfl fo64_1 rfl <| wl rfl rfl rfl hb108 rfl rfl sh26 <| wf rfl rfl rfl hb108 rfl rfl fo76_0 rfl <| wf rfl rfl rfl hb108 rfl rfl fo64_1 rfl <| wl rfl rfl rfl hb108 rfl rfl sh26 ?_
   obtain ⟨t109, ht109, h⟩ := bind_s h
   refine wq rfl rfl rfl hb108 (.s 15 rfl (.s 18 rfl .nil)) (q_call (f := 116) (A := bA t109) (xs := [.tmp 15, .tmp 18]) («as» := [SlcA kInt a0.fMorphism.fEdges, SlcA kInt a1.fMorphism.fEdges]) rfl ca116 (ref05_SameInts.con k a0.fMorphism.fEdges a1.fMorphism.fEdges t109 ht109) rfl).o <| p2 rfl 12 rfl 19 rfl (q_pickT rfl hb108) <| mv rfl rfl ?_
   rcases bif_s h with ⟨hb110, h⟩ | ⟨hb110, h⟩
   ·refine wf rfl rfl rfl hb110 rfl rfl fo76_1 rfl <| wl rfl rfl rfl hb110 rfl rfl sh26 <| wf rfl rfl rfl hb110 rfl rfl fo76_1 rfl <| wl rfl rfl rfl hb110 rfl rfl sh26 ?_
    obtain ⟨t111, ht111, h⟩ := bind_s h
    refine wq rfl rfl rfl hb110 (.s 23 rfl (.s 25 rfl .nil)) (q_call (f := 116) (A := bA t111) (xs := [.tmp 23, .tmp 25]) («as» := [SlcA kInt a0.fVars, SlcA kInt a1.fVars]) rfl ca116 (ref05_SameInts.con k a0.fVars a1.fVars t111 ht111) rfl).o <| p2 rfl 21 rfl 26 rfl (q_pickT rfl hb110) <| av rfl rfl <| WL.nil ?_
    exact QN.weaken (.one rfl (.nil _)) (Kj106 () t111 h)
   ·refine sk rfl rfl rfl hb110 <| sk rfl rfl rfl hb110 <| sk rfl rfl rfl hb110 <| sk rfl rfl rfl hb110 <| sk rfl rfl rfl hb110 <| pk rfl 21 rfl (q_pickF rfl hb110) <| av rfl rfl <| WL.nil ?_
    exact QN.weaken (.one rfl (.nil _)) (Kj106 () false h)
  ·refine sk rfl rfl rfl hb108 <| sk rfl rfl rfl hb108 <| sk rfl rfl rfl hb108 <| sk rfl rfl rfl hb108 <| sk rfl rfl rfl hb108 <| sk rfl rfl rfl hb108 <| sk rfl rfl rfl hb108 <| pk rfl 12 rfl (q_pickF rfl hb108) <| mv rfl rfl <| sk rfl rfl rfl rfl <| sk rfl rfl rfl rfl <| sk rfl rfl rfl rfl <| sk rfl rfl rfl rfl ?_
   refine sk rfl rfl rfl rfl <| pk rfl 21 rfl (q_pickF rfl rfl) <| av rfl rfl <| WL.nil ?_
   exact QN.weaken (.one rfl (.nil _)) (Kj106 () false h)
end Go.Proofs.YtcgdfjpeboiioaaGreat
