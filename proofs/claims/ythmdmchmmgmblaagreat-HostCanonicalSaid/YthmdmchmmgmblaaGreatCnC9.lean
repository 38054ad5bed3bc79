/- The Go functions compute the pure ones. (Printed by gen.py.) -/
import Derived.Test.YthmdmchmmgmblaaGreatCnC8
namespace Go.Proofs.YthmdmchmmgmblaaGreat
open Go Go.Abs
attribute [local irreducible] Tryz.prog
theorem ref15_segment.con (k : Nat) (a0 : Host) (a1 : (List Int)) (a2 : Int) (r : ((List Int) × (List Int))) (h : ref15_segment k a0 a1 a2 = some r) : Con Tryz.prog 63 [] [AggA [SlcA kInt a0.fGraph.fNodes, SlcA kEdge a0.fGraph.fEdges, SlcA (kSl kInt) a0.fValues], SlcA kInt a1, iA a2] (RA (TupA [SlcA kInt r.1, SlcA kInt r.2])) := by
 unfold ref15_segment at h
 refine Con.of (N := 79) Tryz.func63 rfl rfl rfl fun w0_ fg_ => sr <| p1 rfl 0 rfl (q_box rfl (CellsOf.agg _)) <| ak rfl <| ak rfl <| nt <| W.seq <| W.drawK [(0, false), (1, false), (2, false), (3, false), (4, false), (5, false), (7, false), (8, false), (9, false), (10, false), (11, false)] [6, 12, 13] (bm [0, 1, 3, 0, 15, 31, 63, 0, 128, 0, 896, 1920, 4095, 8191]) mx (by kernel_rfl) <| df rfl rfl rfl fo32_0 rfl <| df rfl rfl rfl fo29_0 rfl <| dl rfl rfl rfl sh26 ?_
 refine dm rfl rfl rfl ?_
 obtain ⟨c110, h⟩ := ite_n h
 refine DK.cons rfl rfl (.p rfl (.s 16 rfl (.s 17 rfl .nil)) rfl (q_index rfl el26 rfl c110.1 c110.2)) <| dl rfl rfl rfl sh3 <| df rfl rfl rfl fo32_1 rfl <| dl rfl rfl rfl sh30 <| dm rfl rfl rfl ?_
 obtain ⟨c112, h⟩ := ite_n h
 refine DK.cons rfl rfl (.p rfl (.s 22 rfl (.s 23 rfl .nil)) rfl (q_index rfl el30 rfl c112.1 c112.2)) <| dl rfl rfl rfl sh26 ?_
 obtain ⟨c113, h⟩ := ite_n h
 refine DK.nil <| CSteps.w [] rfl rfl rfl rfl (.s 19 rfl .nil) rfl (w_lit (kd := kInt) (ps := [(0, .tmp 19)]) (xs := [.tmp 19]) («as» := [iA (rd a0.fGraph.fNodes a2)]) (ys := [(rd a0.fGraph.fNodes a2)]) rfl rfl el26 rfl gr3 rfl rfl rfl (.cons (CellsOf.one rfl) .nil)) ?_
 rintro _ _ ⟨v111, rfl, rfl⟩
 refine CSteps.w [0] rfl rfl rfl rfl (.s 20 rfl (.s 25 rfl .nil)) rfl (w_append (kd := kInt) rfl el26 rfl gr3 c113) ?_
 rintro _ _ ⟨v114, rfl, rfl⟩
 refine CSteps.p rfl rfl rfl (.s 26 rfl .nil) rfl (q_assign rfl) <| CSteps.nil <| QN.weaken (env' := [(8, _), (3, _), (2, _), (1, _)]) (.o4 rfl (.nil _)) <| QN.then_ <| sr <| ak rfl <| nt <| W.seq <| sr <| ak rfl ?_
 refine nt <| W.block <| W.to (StTo.newNil 3 kInt) <| W.to (StTo.as 9 rfl Imp.nilHd) <| W.order [1, 0] rfl ?_
 refine W.loop3 (Γ := (Value × Value)) (fun (g0 : (Value × Value)) (_ : (List Int)) (_ : (List Int)) (x10 : Int) => [(1, SlcA kInt a1), (2, iA a2), (3, PtrA [SlcA kInt a0.fGraph.fNodes, SlcA kEdge a0.fGraph.fEdges, SlcA (kSl kInt) a0.fValues]), (8, HdA g0.1), (9, HdA g0.2), (10, iA x10)]) (fun (g0 : (Value × Value)) (x8 : (List Int)) (x9 : (List Int)) (_ : Int) => [SlE 3 g0.1 kInt x8, SlE 3 g0.2 kInt x9]) h (v114, (.slice none 0 0)) (.o4 rfl (.o2 rfl (.nil _))) rfl (fun rec0 K0 next0 g0 x8 x9 x10 h => ?_)
 unfold ref15_segment.b0 at h
 refine W.seq <| sr <| mv rfl rfl <| mv rfl rfl <| p1 rfl 28 rfl (q_len rfl elS26) <| p2 rfl 27 rfl 29 rfl (q_int rfl rfl) <| nt ?_
 refine W.condP h rfl (fun hb210 h => ?_) (fun hb210 h => ?_)
 ·refine W.skip <| QN.then_ <| W.seq <| W.block <| W.seq <| W.drawK [(0, false), (1, false), (2, false), (3, false), (4, false), (5, false), (6, false), (7, false), (8, false), (9, false), (10, false), (11, false), (12, false), (13, false), (14, false), (15, false), (16, false), (17, false)] [] (bm [0, 1, 0, 0, 12, 28, 0, 127, 0, 256, 0, 0, 0, 6144, 14336, 32767, 65535, 131071]) mx (by kernel_rfl) <| df rfl rfl rfl fo32_0 rfl <| DK.cons rfl rfl (.p rfl (.s 33 rfl .nil) rfl (q_loadS rfl sh29 (leB rfl) rfl)) <| dm rfl rfl rfl <| dm rfl rfl rfl ?_
  obtain ⟨c219, h⟩ := ite_n h
  refine DK.cons rfl rfl (.p rfl (.s 35 rfl (.s 36 rfl .nil)) rfl (q_index rfl el26 rfl c219.1 c219.2)) <| dl rfl rfl rfl sh3 <| dm rfl rfl rfl ?_
  obtain ⟨t220, ht220, h⟩ := bind_s h
  refine DK.cons rfl rfl (.p rfl (.s 34 rfl (.s 38 rfl (.s 39 rfl .nil))) rfl (q_call (f := 79) (A := SlcA kInt t220) (xs := [.tmp 34, .tmp 38, .tmp 39]) («as» := [AggA [SlcA kInt a0.fGraph.fNodes, SlcA kEdge a0.fGraph.fEdges], iA (rd a1 x10), iA a2]) rfl ca79 (ref15_between.con k a0.fGraph (rd a1 x10) a2 t220 ht220) rfl)) <| df rfl rfl rfl fo32_0 rfl <| DK.cons rfl rfl (.p rfl (.s 41 rfl .nil) rfl (q_loadS rfl sh29 (leB rfl) rfl)) <| dm rfl rfl rfl <| dm rfl rfl rfl <| dm rfl rfl rfl ?_
  obtain ⟨c221, h⟩ := ite_n h
  refine DK.cons rfl rfl (.p rfl (.s 44 rfl (.s 45 rfl .nil)) rfl (q_index rfl el26 rfl c221.1 c221.2)) <| dl rfl rfl rfl sh3 ?_
  obtain ⟨t222, ht222, h⟩ := bind_s h
  refine DK.cons rfl rfl (.p rfl (.s 42 rfl (.s 43 rfl (.s 47 rfl .nil))) rfl (q_call (f := 79) (A := SlcA kInt t222) (xs := [.tmp 42, .tmp 43, .tmp 47]) («as» := [AggA [SlcA kInt a0.fGraph.fNodes, SlcA kEdge a0.fGraph.fEdges], iA a2, iA (rd a1 x10)]) rfl ca79 (ref15_between.con k a0.fGraph a2 (rd a1 x10) t222 ht222) rfl)) <| DK.cons rfl rfl (.p rfl (.s 40 rfl .nil) rfl (q_assign rfl)) <| DK.cons rfl rfl (.p rfl (.s 48 rfl .nil) rfl (q_assign rfl)) <| DK.nil <| CSteps.nil <| QN.weaken (env' := [(12, _), (11, _), (10, _), (9, _), (8, _), (3, _), (2, _), (1, _)]) (.o4 rfl (.o4 rfl (.nil _))) <| QN.then_ <| W.seq <| W.drawK [(0, false), (1, false), (2, false), (3, false), (4, false), (6, false), (7, false), (8, false)] [5, 9, 10, 11] (bm [0, 0, 2, 0, 14, 31, 0, 64, 0, 511, 1023, 2047]) mx (by kernel_rfl) <| dm rfl rfl rfl <| df rfl rfl rfl fo32_0 rfl <| DK.cons rfl rfl (.p rfl (.s 50 rfl .nil) rfl (q_loadS rfl sh29 (leB rfl) rfl)) <| dm rfl rfl rfl ?_
  obtain ⟨t235, ht235, h⟩ := bind_s h
  refine DK.cons rfl rfl (.p rfl (.s 51 rfl (.s 52 rfl .nil)) rfl (q_call (f := 111) (A := SlcA kInt t235) (xs := [.tmp 51, .tmp 52]) («as» := [AggA [SlcA kInt a0.fGraph.fNodes, SlcA kEdge a0.fGraph.fEdges], SlcA kInt t220]) rfl ca111 (ref15_listed.con k a0.fGraph t220 t235 ht235) rfl)) ?_
  obtain ⟨c236, h⟩ := ite_n h
  refine df rfl rfl rfl fo32_0 rfl <| DK.cons rfl rfl (.p rfl (.s 55 rfl .nil) rfl (q_loadS rfl sh29 (leB rfl) rfl)) <| dm rfl rfl rfl ?_
  obtain ⟨t238, ht238, h⟩ := bind_s h
  obtain ⟨c239, h⟩ := ite_n h
  refine DK.nil <| CSteps.w [0] rfl rfl rfl rfl (.s 49 rfl (.s 53 rfl .nil)) rfl (w_append (kd := kInt) rfl el26 rfl gr3 c236) ?_
  rintro _ _ ⟨v237, rfl, rfl⟩
  refine CSteps.p rfl rfl rfl (.s 56 rfl (.s 57 rfl .nil)) rfl (q_call (f := 111) (A := SlcA kInt t238) (xs := [.tmp 56, .tmp 57]) («as» := [AggA [SlcA kInt a0.fGraph.fNodes, SlcA kEdge a0.fGraph.fEdges], SlcA kInt t222]) rfl ca111 (ref15_listed.con k a0.fGraph t222 t238 ht238) rfl) <| CSteps.w [0] rfl rfl rfl rfl (.s 54 rfl (.s 58 rfl .nil)) rfl (w_append (kd := kInt) rfl el26 rfl gr3 c239) ?_
  rintro _ _ ⟨v240, rfl, rfl⟩
  refine CSteps.p rfl rfl rfl (.s 59 rfl .nil) rfl (q_assign rfl) <| CSteps.nil <| QN.weaken (env' := [(8, _), (12, _), (11, _), (10, _), (9, _), (3, _), (2, _), (1, _)]) (.o4 rfl (.o4 rfl (.nil _))) <| QN.then_ <| W.region <| mv rfl rfl <| mv rfl rfl ?_
  obtain ⟨c241, h⟩ := ite_n h
  refine WL.w [1] rfl (Wanted.plain rfl) rfl rfl (.s 60 rfl (.s 61 rfl .nil)) (w_append (kd := kInt) rfl el26 rfl gr3 c241) ?_
  rintro _ _ ⟨v242, rfl, rfl⟩
  refine mv rfl rfl ?_
  obtain ⟨c243, h⟩ := ite_n h
  refine WL.w [0] rfl (Wanted.plain rfl) rfl rfl (.s 62 rfl (.s 63 rfl .nil)) (w_append (kd := kInt) rfl el26 rfl gr3 c243) ?_
  rintro _ _ ⟨v244, rfl, rfl⟩
  refine av rfl rfl <| WL.nil <| QN.block <| QN.weaken (env' := [(9, _), (8, _), (10, _), (3, _), (2, _), (1, _)]) (.o4 rfl (.o2 rfl (.nil _))) <| QN.then_ <| W.region <| mv rfl rfl ?_
  obtain ⟨c245, h⟩ := ite_n h
  refine pk rfl 31 rfl (q_addR rfl c245) <| av rfl rfl <| WL.nil <| QN.order [1, 0] rfl ?_
  exact next0 (v240, v244) ((x8 ++ t235) ++ t238) ((x9 ++ t220) ++ t222) (x10 + 1) _ h (.o4 rfl (.o2 rfl (.nil _)))
 ·refine W.exit <| QX.then_ <| QX.then_ <| QX.here <| QN.then_ <| sr <| fd rfl rfl fo32_0 rfl <| lS rfl rfl sh29 rfl rfl <| mv rfl rfl <| mv rfl rfl ?_
  obtain ⟨t246, ht246, h⟩ := bind_s h
  refine WL.p rfl rfl rfl (.s 66 rfl (.s 67 rfl (.s 68 rfl .nil))) (q_call (f := 79) (A := SlcA kInt t246) (xs := [.tmp 66, .tmp 67, .tmp 68]) («as» := [AggA [SlcA kInt a0.fGraph.fNodes, SlcA kEdge a0.fGraph.fEdges], iA a2, iA a2]) rfl ca79 (ref15_between.con k a0.fGraph a2 a2 t246 ht246) rfl) <| av rfl rfl <| WL.nil <| QN.weaken (env' := [(13, _), (9, _), (8, _), (3, _)]) (.o4 rfl (.nil _)) <| QN.then_ <| sr <| mv rfl rfl <| fd rfl rfl fo32_0 rfl <| lS rfl rfl sh29 rfl rfl <| mv rfl rfl ?_
  obtain ⟨t247, ht247, h⟩ := bind_s h
  refine p2 rfl 72 rfl 73 rfl (q_call (f := 111) (A := SlcA kInt t247) (xs := [.tmp 72, .tmp 73]) («as» := [AggA [SlcA kInt a0.fGraph.fNodes, SlcA kEdge a0.fGraph.fEdges], SlcA kInt t246]) rfl ca111 (ref15_listed.con k a0.fGraph t246 t247 ht247) rfl) ?_
  obtain ⟨c248, h⟩ := ite_n h
  refine WL.w [0] rfl (Wanted.plain rfl) rfl rfl (.s 70 rfl (.s 74 rfl .nil)) (w_append (kd := kInt) rfl el26 rfl gr3 c248) ?_
  rintro _ _ ⟨v249, rfl, rfl⟩
  refine mv rfl rfl <| mv rfl rfl ?_
  obtain ⟨c250, h⟩ := ite_n h
  refine WL.w [1] rfl (Wanted.plain rfl) rfl rfl (.s 76 rfl (.s 77 rfl .nil)) (w_append (kd := kInt) rfl el26 rfl gr3 c250) ?_
  rintro _ _ ⟨v251, rfl, rfl⟩
  refine av rfl rfl <| av rfl rfl <| WL.nil <| QN.weaken (env' := [(7, _), (6, _)]) (.o2 rfl (.nil _)) <| QN.then_ <| W.ret ?_
  cases h
  exact QR.f2 rfl rfl (.t rfl) (.t rfl) (.tup (.cons (.slc 1 rfl) (.cons (.slc 0 rfl) .nil)))
theorem ref15_order.con (k : Nat) (a0 : Host) (r : (List Int)) (h : ref15_order k a0 = some r) : Con Tryz.prog 62 [] [AggA [SlcA kInt a0.fGraph.fNodes, SlcA kEdge a0.fGraph.fEdges, SlcA (kSl kInt) a0.fValues]] (RA (SlcA kInt r)) := by
 unfold ref15_order at h
 refine Con.of (N := 90) Tryz.func62 rfl rfl rfl fun w0_ fg_ => sr <| p1 rfl 0 rfl (q_box rfl (CellsOf.agg _)) <| ak rfl <| nx <| WL.w [] rfl (Wanted.plain rfl) rfl rfl (.k .nil) (WS.args (w_lit (kd := (kSl kInt)) (ps := [(0, .const (.slice none 0 0))]) (xs := [.const (.slice none 0 0)]) («as» := [SlcA kInt []]) (ys := [[]]) rfl rfl el30 rfl gr26 rfl rfl rfl (.cons (CellsOf.one rfl) .nil)) (.cons (Imp.nil kInt) .nil)) ?_
 rintro _ _ ⟨v100, rfl, rfl⟩
 refine av rfl rfl <| nt <| W.seq <| sr <| ak rfl <| nt <| W.block ?_
 refine W.loop2 (Γ := Value) (fun (g0 : Value) (_ : (List (List Int))) (x4 : Int) => [(1, PtrA [SlcA kInt a0.fGraph.fNodes, SlcA kEdge a0.fGraph.fEdges, SlcA (kSl kInt) a0.fValues]), (3, HdA g0), (4, iA x4)]) (fun (g0 : Value) (x3 : (List (List Int))) (_ : Int) => [SlE 26 g0 (kSl kInt) x3]) h v100 (.o2 rfl (.one rfl (.nil _))) rfl (fun rec0 K0 next0 g0 x3 x4 h => ?_)
 unfold ref15_order.b0 at h
 refine W.seq <| sr <| mv rfl rfl <| fd rfl rfl fo32_0 rfl <| fd rfl rfl fo29_0 rfl <| ld rfl rfl sh26 <| p1 rfl 16 rfl (q_len rfl elS26) <| p2 rfl 13 rfl 17 rfl (q_int rfl rfl) <| nt ?_
 refine W.condP h rfl (fun hb2207 h => ?_) (fun hb2207 h => ?_)
 ·refine W.skip <| QN.then_ <| W.seq <| W.block <| sr <| ak rfl <| nx <| ak rfl <| WL.nil ?_
  refine QN.then_ <| W.seq <| sr <| ak rfl <| nt <| W.block <| W.to (StTo.newNil 26 (kSl kInt)) <| W.to (StTo.as 6 rfl Imp.nilHd) <| W.order [1, 0] rfl ?_
  refine W.loop3 (Γ := Value) (fun (g1 : Value) (x5 : (List Int)) (_ : (List (List Int))) (x7 : Int) => [(1, PtrA [SlcA kInt a0.fGraph.fNodes, SlcA kEdge a0.fGraph.fEdges, SlcA (kSl kInt) a0.fValues]), (3, HdA g0), (4, iA x4), (5, SlcA kInt x5), (6, HdA g1), (7, iA x7)]) (fun (g1 : Value) (_ : (List Int)) (x6 : (List (List Int))) (_ : Int) => [SlE 26 g0 (kSl kInt) x3, SlE 26 g1 (kSl kInt) x6]) h (.slice none 0 0) (.o2 rfl (.one rfl (.cons rfl (Imp.nil kInt) (.o2 rfl (.nil _))))) rfl (fun rec1 K1 next1 g1 x5 x6 x7 h => ?_)
  unfold ref15_order.b1 at h
  refine W.seq <| sr <| mv rfl rfl <| mv rfl rfl <| WL.q (Wanted.plain rfl) rfl rfl (.s 22 rfl .nil) (q_lenO rfl elS30 (i := 0) rfl) <| p2 rfl 21 rfl 23 rfl (q_int rfl rfl) <| nt ?_
  refine W.condP h rfl (fun hb2909 h => ?_) (fun hb2909 h => ?_)
  ·refine W.skip <| QN.then_ <| W.seq <| W.block <| W.seq <| W.drawK [(0, false), (1, false), (2, false), (3, true), (4, true), (5, false), (6, false)] [] (bm [0, 0, 0, 6, 14, 31, 63]) mx (by kernel_rfl) <| DK.cons rfl rfl (.p rfl (.s 1 rfl .nil) rfl (q_loadS rfl sh32 (leB rfl) rfl)) <| dm rfl rfl rfl <| dm rfl rfl rfl ?_
   obtain ⟨c2914, h⟩ := ite_n h
   refine DK.cons rfl rfl (.o rfl (.s 28 rfl (.s 29 rfl .nil)) rfl (q_indexO rfl el30 (j := 0) rfl c2914.1 c2914.2)) <| DK.cons rfl rfl (.o rfl (.s 30 rfl .nil) rfl (q_loadEl rfl sh26 (j := 0) rfl rfl c2914.1 c2914.2 rfl)) ?_
   obtain ⟨t2915, ht2915, h⟩ := bind_s h
   refine DK.cons rfl rfl (.p rfl (.s 27 rfl (.s 31 rfl .nil)) rfl (q_call (f := 110) (A := SlcA kInt t2915) (xs := [.tmp 27, .tmp 31]) («as» := [AggA [SlcA kInt a0.fGraph.fNodes, SlcA kEdge a0.fGraph.fEdges, SlcA (kSl kInt) a0.fValues], SlcA kInt (rd x3 x7)]) rfl ca110 (ref15_next.con k a0 (rd x3 x7) t2915 ht2915) rfl)) <| DK.cons rfl rfl (.p rfl (.s 32 rfl .nil) rfl (q_assign rfl)) <| DK.nil <| CSteps.nil <| QN.weaken (env' := [(8, _), (7, _), (6, _), (5, _), (4, _), (3, _), (1, _)]) (.o4 rfl (.o2 rfl (.one rfl (.nil _)))) <| QN.then_ <| sr <| ak rfl <| nt <| W.block ?_
   refine W.loop3 (Γ := Value) (fun (g2 : Value) (x5' : (List Int)) (_ : (List (List Int))) (x9 : Int) => [(1, PtrA [SlcA kInt a0.fGraph.fNodes, SlcA kEdge a0.fGraph.fEdges, SlcA (kSl kInt) a0.fValues]), (3, HdA g0), (4, iA x4), (5, SlcA kInt x5'), (6, HdA g2), (7, iA x7), (8, SlcA kInt t2915), (9, iA x9)]) (fun (g2 : Value) (_ : (List Int)) (x6' : (List (List Int))) (_ : Int) => [SlE 26 g0 (kSl kInt) x3, SlE 26 g2 (kSl kInt) x6']) h g1 (.o4 rfl (.o4 rfl (.nil _))) rfl (fun rec2 K2 next2 g2 x5' x6' x9 h => ?_)
   unfold ref15_order.b2 at h
   refine W.seq <| sr <| mv rfl rfl <| mv rfl rfl <| p1 rfl 34 rfl (q_len rfl elS26) <| p2 rfl 33 rfl 35 rfl (q_int rfl rfl) <| nt ?_
   refine W.condP h rfl (fun hb3144 h => ?_) (fun hb3144 h => ?_)
   ·refine W.skip <| QN.then_ <| W.seq <| W.block <| W.seq <| W.drawK [(0, false), (1, false), (2, false), (3, true), (4, true), (5, false), (6, false), (7, false), (8, false), (9, false), (10, false), (11, false), (12, false), (13, false), (14, false)] [] (bm [0, 0, 0, 6, 14, 0, 0, 96, 224, 511, 1023, 2047, 2047, 4095, 16383]) mx (by kernel_rfl) <| DK.cons rfl rfl (.p rfl (.s 1 rfl .nil) rfl (q_loadS rfl sh32 (leB rfl) rfl)) <| dm rfl rfl rfl <| dm rfl rfl rfl ?_
    obtain ⟨c3205, h⟩ := ite_n h
    refine DK.cons rfl rfl (.o rfl (.s 41 rfl (.s 42 rfl .nil)) rfl (q_indexO rfl el30 (j := 0) rfl c3205.1 c3205.2)) <| DK.cons rfl rfl (.o rfl (.s 43 rfl .nil) rfl (q_loadEl rfl sh26 (j := 0) rfl rfl c3205.1 c3205.2 rfl)) <| dm rfl rfl rfl <| dm rfl rfl rfl ?_
    obtain ⟨c3206, h⟩ := ite_n h
    refine DK.cons rfl rfl (.p rfl (.s 45 rfl (.s 46 rfl .nil)) rfl (q_index rfl el26 rfl c3206.1 c3206.2)) <| dl rfl rfl rfl sh3 ?_
    obtain ⟨t3207, ht3207, h⟩ := bind_s h
    refine DK.cons rfl rfl (.p rfl (.s 40 rfl (.s 44 rfl (.s 48 rfl .nil))) rfl (q_call (f := 63) (A := TupA [SlcA kInt t3207.1, SlcA kInt t3207.2]) (xs := [.tmp 40, .tmp 44, .tmp 48]) («as» := [AggA [SlcA kInt a0.fGraph.fNodes, SlcA kEdge a0.fGraph.fEdges, SlcA (kSl kInt) a0.fValues], SlcA kInt (rd x3 x7), iA (rd t2915 x9)]) rfl ca63 (ref15_segment.con k a0 (rd x3 x7) (rd t2915 x9) t3207 ht3207) rfl)) <| dm rfl rfl rfl <| DK.cons rfl rfl (.p rfl (.s 39 rfl .nil) rfl (q_extract rfl rfl)) <| DK.cons rfl rfl (.p rfl (.s 39 rfl .nil) rfl (q_extract rfl rfl)) <| DK.cons rfl rfl (.p rfl (.s 50 rfl .nil) rfl (q_assign rfl)) <| DK.cons rfl rfl (.p rfl (.s 51 rfl .nil) rfl (q_assign rfl)) <| DK.nil <| CSteps.nil <| QN.weaken (env' := [(10, _), (9, _), (8, _), (7, _), (6, _), (5, _), (4, _), (3, _), (1, _)]) (.o4 rfl (.o4 rfl (.one rfl (.nil _)))) <| QN.then_ <| W.seq <| W.seq ?_
    refine W.jn1 (Γ := Unit) (fun (_ : Unit) (x60 : Bool) => [(1, PtrA [SlcA kInt a0.fGraph.fNodes, SlcA kEdge a0.fGraph.fEdges, SlcA (kSl kInt) a0.fValues]), (3, HdA g0), (4, iA x4), (5, SlcA kInt x5'), (6, HdA g2), (7, iA x7), (8, SlcA kInt t2915), (9, iA x9), (10, SlcA kInt t3207.1), (60, bA x60)]) (fun (_ : Unit) (_ : Bool) => [SlE 26 g0 (kSl kInt) x3, SlE 26 g2 (kSl kInt) x6']) h (fun _ x60 h => ?_) (fun j3211 Kj3211 h => ?_)
    ·refine QN.then_ ?_
     refine W.condP h rfl (fun hb3212 h => ?_) (fun hb3212 h => ?_)
     ·refine W.exit <| QX.then_ <| QX.here <| QN.then_ <| W.region <| mv rfl rfl ?_
      obtain ⟨c3213, h⟩ := ite_n h
      refine pk rfl 37 rfl (q_addR rfl c3213) <| av rfl rfl <| WL.nil ?_
      exact next2 g2 x5' x6' (x9 + 1) _ h (.o4 rfl (.o4 rfl (.nil _)))
     ·refine W.skip <| QN.then_ <| W.seq <| W.seq ?_
      refine W.jn1 (Γ := Unit) (fun (_ : Unit) (x69 : Bool) => [(1, PtrA [SlcA kInt a0.fGraph.fNodes, SlcA kEdge a0.fGraph.fEdges, SlcA (kSl kInt) a0.fValues]), (3, HdA g0), (4, iA x4), (6, HdA g2), (7, iA x7), (8, SlcA kInt t2915), (9, iA x9), (10, SlcA kInt t3207.1), (69, bA x69)]) (fun (_ : Unit) (_ : Bool) => [SlE 26 g0 (kSl kInt) x3, SlE 26 g2 (kSl kInt) x6']) h (fun _ x69 h => ?_) (fun j3217 Kj3217 h => ?_)
      ·refine QN.then_ ?_
       refine W.jn1 (Γ := Value) (fun (g3219 : Value) (_ : (List (List Int))) => [(1, PtrA [SlcA kInt a0.fGraph.fNodes, SlcA kEdge a0.fGraph.fEdges, SlcA (kSl kInt) a0.fValues]), (3, HdA g0), (4, iA x4), (7, iA x7), (8, SlcA kInt t2915), (9, iA x9), (10, SlcA kInt t3207.1), (6, HdA g3219)]) (fun (g3219 : Value) (x6'' : (List (List Int))) => [SlE 26 g0 (kSl kInt) x3, SlE 26 g3219 (kSl kInt) x6'']) h (fun g3219 x6'' h => ?_) (fun j3223 Kj3223 h => ?_)
       ·refine QN.then_ <| sr <| mv rfl rfl <| av rfl rfl <| nt <| W.drawK [(0, false), (1, false), (2, false), (3, false), (4, true), (5, true), (7, false), (8, false), (9, false), (10, false), (11, false)] [6, 12, 13, 14, 15] (bm [0, 0, 0, 0, 12, 28, 62, 0, 0, 384, 896, 1920, 4094, 8190, 16383, 32767]) mx (by kernel_rfl) <| dm rfl rfl rfl <| DK.cons rfl rfl (.p rfl .nil rfl (q_lit0 rfl el26 gr3)) <| dm rfl rfl rfl <| dm rfl rfl rfl ?_
        obtain ⟨c3240, h⟩ := ite_n h
        refine DK.cons rfl rfl (.o rfl (.s 73 rfl (.s 74 rfl .nil)) rfl (q_indexO rfl el30 (j := 0) rfl c3240.1 c3240.2)) <| DK.cons rfl rfl (.o rfl (.s 75 rfl .nil) rfl (q_loadEl rfl sh26 (j := 0) rfl rfl c3240.1 c3240.2 rfl)) ?_
        obtain ⟨c3241, h⟩ := ite_n h
        refine dm rfl rfl rfl <| dm rfl rfl rfl ?_
        obtain ⟨c3243, h⟩ := ite_n h
        refine DK.cons rfl rfl (.p rfl (.s 78 rfl (.s 79 rfl .nil)) rfl (q_index rfl el26 rfl c3243.1 c3243.2)) <| dl rfl rfl rfl sh3 <| DK.cons rfl rfl (.p rfl (.s 81 rfl .nil) rfl (q_lit (kd := kInt) (ps := [(0, .tmp 81)]) (xs := [.tmp 81]) («as» := [iA (rd t2915 x9)]) (ys := [(rd t2915 x9)]) rfl rfl el26 rfl gr3 rfl rfl rfl (.cons (CellsOf.one rfl) .nil))) ?_
        obtain ⟨c3244, h⟩ := ite_n h
        obtain ⟨c3246, h⟩ := ite_n h
        refine DK.nil <| CSteps.w [] rfl rfl rfl rfl (.s 72 rfl (.s 76 rfl .nil)) rfl (w_appendZ (kd := kInt) rfl el26 rfl gr3 c3241) ?_
        rintro _ _ ⟨v3242, rfl, rfl⟩
        refine CSteps.w [0] rfl rfl rfl rfl (.s 77 rfl (.s 82 rfl .nil)) rfl (WS.free (w_append (kd := kInt) rfl el26 rfl gr3 c3244)) ?_
        rintro _ _ ⟨rfl, rfl⟩
        refine CSteps.p rfl rfl rfl (.s 83 rfl .nil) rfl (q_lit (kd := (kSl kInt)) (ps := [(0, .tmp 83)]) (xs := [.tmp 83]) («as» := [SlcA kInt ((rd x3 x7) ++ [(rd t2915 x9)])]) (ys := [((rd x3 x7) ++ [(rd t2915 x9)])]) rfl rfl el30 rfl gr26 rfl rfl rfl (.cons (CellsOf.one rfl) .nil)) <| CSteps.w [1] rfl rfl rfl rfl (.s 71 rfl (.s 84 rfl .nil)) rfl (w_append (kd := (kSl kInt)) rfl el30 rfl gr26 c3246) ?_
        rintro _ _ ⟨v3247, rfl, rfl⟩
        refine CSteps.p rfl rfl rfl (.s 85 rfl .nil) rfl (q_assign rfl) <| CSteps.nil <| QN.block <| QN.weaken (env' := [(6, _), (5, _), (9, _), (8, _), (7, _), (4, _), (3, _), (1, _)]) (.o4 rfl (.o4 rfl (.nil _))) <| QN.then_ <| W.region <| mv rfl rfl ?_
        obtain ⟨c3248, h⟩ := ite_n h
        refine pk rfl 37 rfl (q_addR rfl c3248) <| av rfl rfl <| WL.nil <| QN.order [1, 0] rfl ?_
        exact next2 v3247 t3207.1 (x6'' ++ [((rd x3 x7) ++ [(rd t2915 x9)])]) (x9 + 1) _ h (.o4 rfl (.o4 rfl (.nil _)))
       ·refine W.condP h rfl (fun hb3249 h => ?_) (fun hb3249 h => ?_)
        ·refine W.region <| ak rfl <| WL.nil <| QN.to (StTo.newNil 26 (kSl kInt)) <| QN.to (StTo.as 6 rfl Imp.nilHd) <| QN.drop [2] rfl <| QN.order [1, 0] rfl ?_
         exact QN.weaken (.o4 rfl (.o4 rfl (.nil _))) (Kj3223 (.slice none 0 0) [] h)
        ·refine W.skip ?_
         exact QN.weaken (.o4 rfl (.o4 rfl (.nil _))) (Kj3223 g2 x6' h)
      ·refine W.region <| mv rfl rfl <| WL.q (Wanted.plain rfl) rfl rfl (.s 61 rfl .nil) (q_lenO rfl elS30 (i := 1) rfl) <| pk rfl 62 rfl (q_int rfl rfl) <| mv rfl rfl ?_
       rcases bif_s h with ⟨hb3251, h⟩ | ⟨hb3251, h⟩
       ·refine wm rfl rfl rfl hb3251 rfl rfl <| wm rfl rfl rfl hb3251 rfl rfl ?_
        obtain ⟨t3252, ht3252, h⟩ := bind_s h
        refine wq rfl rfl rfl hb3251 (.s 65 rfl (.s 66 rfl .nil)) (q_call (f := 65) (A := iA t3252) (xs := [.tmp 65, .tmp 66]) («as» := [SlcA kInt t3207.1, SlcA kInt x5']) rfl ca65 (ref15_compare.con k t3207.1 x5' t3252 ht3252) rfl).o <| wq rfl rfl rfl hb3251 (.s 67 rfl (.k .nil)) (q_int rfl rfl).o <| p2 rfl 64 rfl 68 rfl (q_pickT rfl hb3251) <| WL.nil ?_
        exact QN.weaken (.o4 rfl (.o4 rfl (.one rfl (.nil _)))) (Kj3217 () (decide (t3252 < 0)) h)
       ·refine sk rfl rfl rfl hb3251 <| sk rfl rfl rfl hb3251 <| sk rfl rfl rfl hb3251 <| sk rfl rfl rfl hb3251 <| pk rfl 64 rfl (q_pickF rfl hb3251) <| WL.nil ?_
        exact QN.weaken (.o4 rfl (.o4 rfl (.one rfl (.nil _)))) (Kj3217 () false h)
    ·refine W.region <| mv rfl rfl <| WL.q (Wanted.plain rfl) rfl rfl (.s 52 rfl .nil) (q_lenO rfl elS30 (i := 1) rfl) <| pk rfl 53 rfl (q_int rfl rfl) <| mv rfl rfl ?_
     rcases bif_s h with ⟨hb3253, h⟩ | ⟨hb3253, h⟩
     ·refine wm rfl rfl rfl hb3253 rfl rfl <| wm rfl rfl rfl hb3253 rfl rfl ?_
      obtain ⟨t3254, ht3254, h⟩ := bind_s h
      refine wq rfl rfl rfl hb3253 (.s 56 rfl (.s 57 rfl .nil)) (q_call (f := 65) (A := iA t3254) (xs := [.tmp 56, .tmp 57]) («as» := [SlcA kInt t3207.1, SlcA kInt x5']) rfl ca65 (ref15_compare.con k t3207.1 x5' t3254 ht3254) rfl).o <| wq rfl rfl rfl hb3253 (.s 58 rfl (.k .nil)) (q_int rfl rfl).o <| p2 rfl 55 rfl 59 rfl (q_pickT rfl hb3253) <| WL.nil ?_
      exact QN.weaken (.o4 rfl (.o4 rfl (.o2 rfl (.nil _)))) (Kj3211 () (decide (t3254 > 0)) h)
     ·refine sk rfl rfl rfl hb3253 <| sk rfl rfl rfl hb3253 <| sk rfl rfl rfl hb3253 <| sk rfl rfl rfl hb3253 <| pk rfl 55 rfl (q_pickF rfl hb3253) <| WL.nil ?_
      exact QN.weaken (.o4 rfl (.o4 rfl (.o2 rfl (.nil _)))) (Kj3211 () false h)
   ·refine W.exit <| QX.then_ <| QX.then_ <| QX.here <| QN.block <| QN.then_ <| W.region <| mv rfl rfl ?_
    obtain ⟨c3255, h⟩ := ite_n h
    refine pk rfl 25 rfl (q_addR rfl c3255) <| av rfl rfl <| WL.nil ?_
    exact next1 g2 x5' x6' (x7 + 1) _ h (.o4 rfl (.o2 rfl (.nil _)))
  ·refine W.exit <| QX.then_ <| QX.then_ <| QX.here <| QN.weaken (env' := [(6, _), (4, _), (1, _)]) (.o2 rfl (.one rfl (.nil _))) <| QN.then_ <| W.region <| mv rfl rfl <| av rfl rfl <| WL.nil <| QN.block <| QN.then_ <| W.region ?_
   refine mv rfl rfl ?_
   obtain ⟨c3256, h⟩ := ite_n h
   refine pk rfl 19 rfl (q_addR rfl c3256) <| av rfl rfl <| WL.nil <| QN.drop [0] rfl ?_
   exact next0 g1 x6 (x4 + 1) _ h (.o2 rfl (.one rfl (.nil _)))
 ·refine W.exit <| QX.then_ <| QX.then_ <| QX.here <| QN.weaken (env' := [(3, _)]) (.one rfl (.nil _)) <| QN.then_ <| sr <| mv rfl rfl ?_
  obtain ⟨c3257, h⟩ := ite_n h
  refine WL.q (Wanted.plain rfl) rfl rfl (.s 87 rfl (.k .nil)) (q_indexO rfl el30 (j := 0) rfl c3257.1 c3257.2) <| WL.q (Wanted.plain rfl) rfl rfl (.s 88 rfl .nil) (q_loadEl rfl sh26 (j := 0) rfl rfl c3257.1 c3257.2 rfl) <| av rfl rfl <| nt <| W.ret ?_
  cases h
  exact QR.f1 rfl rfl (.t rfl) (.id _)
theorem ref15_Canonical.con (k : Nat) (a0 : Types) (a1 : Host) (r : (Host × Morphism × Int)) (h : ref15_Canonical k a0 a1 = some r) : Con Tryz.prog 21 [] [AggA [SlcA kNodeType a0.fNodes, SlcA kEdgeType a0.fEdges], AggA [SlcA kInt a1.fGraph.fNodes, SlcA kEdge a1.fGraph.fEdges, SlcA (kSl kInt) a1.fValues]] (RA (TupA [AggA [SlcA kInt r.1.fGraph.fNodes, SlcA kEdge r.1.fGraph.fEdges, SlcA (kSl kInt) r.1.fValues], AggA [SlcA kInt r.2.1.fNodes, SlcA kInt r.2.1.fEdges], iA r.2.2])) := by
 unfold ref15_Canonical at h
 refine Con.of (N := 151) Tryz.func21 rfl rfl rfl fun w0_ fg_ => sr <| p1 rfl 0 rfl (q_box rfl (CellsOf.agg _)) <| p1 rfl 1 rfl (q_box rfl (CellsOf.agg _)) <| WL.w [] rfl (Wanted.plain rfl) rfl rfl .nil (w_alloc rfl z32 (l := [EqA (.slice none 0 0), EqA (.slice none 0 0), EqA (.slice none 0 0)]) rfl) ?_
 rintro _ _ ⟨b100, rfl, rfl⟩
 refine WL.w [] rfl (Wanted.plain rfl) rfl rfl .nil (w_alloc rfl z47 (l := [EqA (.slice none 0 0), EqA (.slice none 0 0)]) rfl) ?_
 rintro _ _ ⟨b101, rfl, rfl⟩
 refine ak rfl <| nt <| W.seq <| sr <| lS rfl rfl sh25 rfl rfl <| lS rfl rfl sh32 rfl rfl ?_
 obtain ⟨t102, ht102, h⟩ := bind_s h
 refine p2 rfl 17 rfl 18 rfl (q_call (f := 61) (A := iA t102) (xs := [.tmp 17, .tmp 18]) («as» := [AggA [SlcA kNodeType a0.fNodes, SlcA kEdgeType a0.fEdges], AggA [SlcA kInt a1.fGraph.fNodes, SlcA kEdge a1.fGraph.fEdges, SlcA (kSl kInt) a1.fValues]]) rfl ca61 (ref15_small.con k a0 a1 t102 ht102) rfl) <| av rfl rfl <| WL.nil <| QN.weaken (env' := [(7, _), (5, _), (4, _), (3, _)]) (.o4 rfl (.nil _)) <| QN.then_ <| sr <| mv rfl rfl <| pk rfl 20 rfl (q_int rfl rfl) <| nt ?_
 refine W.condP h rfl (fun hb103 h => ?_) (fun hb103 h => ?_)
 ·refine sr <| WL.p rfl rfl rfl .nil (q_build (is := []) (xs := []) (L := [EqA (.slice none 0 0), EqA (.slice none 0 0), EqA (.slice none 0 0)]) rfl rfl z32 pl32 rfl rfl .nil rfl) <| WL.p rfl rfl rfl .nil (q_build (is := []) (xs := []) (L := [EqA (.slice none 0 0), EqA (.slice none 0 0)]) rfl rfl z47 pl47 rfl rfl .nil rfl) <| mv rfl rfl <| WL.w0 [1] rfl (Wanted.plain rfl) rfl (.s 4 rfl (.s 22 rfl .nil)) (w_store (L := [EqA (.slice none 0 0), EqA (.slice none 0 0), EqA (.slice none 0 0)]) rfl sh32 (CellsOf.agg _) rfl rfl (leB rfl) rfl) ?_
  rintro _ _ ⟨rfl, rfl⟩
  refine WL.w0 [1] rfl (Wanted.plain rfl) rfl (.s 5 rfl (.s 23 rfl .nil)) (w_store (L := [EqA (.slice none 0 0), EqA (.slice none 0 0)]) rfl sh47 (CellsOf.agg _) rfl rfl (leB rfl) rfl) ?_
  rintro _ _ ⟨rfl, rfl⟩
  refine av rfl rfl <| WL.nil <| QN.weaken (env' := [(6, _), (5, _), (4, _)]) (.o2 rfl (.one rfl (.nil _))) <| QN.then_ <| W.ret <| QR.then_ ?_
  cases h
  exact QR.f3 rfl rfl (.cs (i := 1) rfl sh32 rfl rfl) (.cs (i := 0) rfl sh47 rfl rfl) (.t rfl) (.imp (Imp.tup (.cons (Imp.agg (.cons (Imp.nil kInt) (.cons (Imp.nil kEdge) (.cons (Imp.nil (kSl kInt)) .nil)))) (.cons (Imp.agg (.cons (Imp.nil kInt) (.cons (Imp.nil kInt) .nil))) (.cons (Imp.id _) .nil)))))
 ·refine W.skip <| QN.then_ <| sr <| lS rfl rfl sh32 rfl rfl ?_
  obtain ⟨t104, ht104, h⟩ := bind_s h
  refine p1 rfl 25 rfl (q_call (f := 62) (A := SlcA kInt t104) (xs := [.tmp 25]) («as» := [AggA [SlcA kInt a1.fGraph.fNodes, SlcA kEdge a1.fGraph.fEdges, SlcA (kSl kInt) a1.fValues]]) rfl ca62 (ref15_order.con k a1 t104 ht104) rfl) <| av rfl rfl <| nt <| W.seq ?_
  refine W.jn0 (Γ := (Value × Value)) (fun (g115 : (Value × Value)) => [(3, PtrA [SlcA kInt a1.fGraph.fNodes, SlcA kEdge a1.fGraph.fEdges, SlcA (kSl kInt) a1.fValues]), (4, EqA (.pointer (some ⟨b100, 0, none⟩))), (5, EqA (.pointer (some ⟨b101, 0, none⟩))), (8, SlcA kInt t104), (9, PtrA [HdA g115.1, HdA g115.2])]) (fun (g115 : (Value × Value)) => [BoxE b100 [EqA (.slice none 0 0), EqA (.slice none 0 0), EqA (.slice none 0 0)], BoxE b101 [EqA (.slice none 0 0), EqA (.slice none 0 0)], SlE 3 g115.1 kInt (List.replicate ((a1.fGraph.fNodes.length : Int) : Int).toNat (0 : Int)), SlE 3 g115.2 kInt (List.replicate ((a1.fGraph.fEdges.length : Int) : Int).toNat (0 : Int))]) h (fun g115 h => ?_) (fun j120 Kj120 h => ?_)
  ·refine QN.then_ <| sr <| WL.w [] rfl (Wanted.plain rfl) rfl rfl .nil (w_alloc rfl z32 (l := [EqA (.slice none 0 0), EqA (.slice none 0 0), EqA (.slice none 0 0)]) rfl) ?_
   rintro _ _ ⟨b121, rfl, rfl⟩
   refine nt <| W.seq <| sr <| ak rfl <| nt <| W.block <| W.to (StTo.boxImp [0] rfl (.cons Imp.nilHd (.cons (Imp.id _) (.cons (Imp.id _) .nil)))) <| W.to (StTo.newNil 3 kInt) <| W.to (StTo.boxImp [1] rfl (.cons (Imp.id _) (.cons (Imp.id _) (.cons Imp.nilHd .nil)))) <| W.to (StTo.newNil 26 (kSl kInt)) ?_
   refine W.order [3, 3, 3, 3, 1, 1, 0] rfl ?_
   refine W.loop4 (Γ := (Value × Value)) (fun (_ : (Value × Value)) (_ : (List Int)) (_ : (List Int)) (_ : (List (List Int))) (x11 : Int) => [(3, PtrA [SlcA kInt a1.fGraph.fNodes, SlcA kEdge a1.fGraph.fEdges, SlcA (kSl kInt) a1.fValues]), (4, EqA (.pointer (some ⟨b100, 0, none⟩))), (5, EqA (.pointer (some ⟨b101, 0, none⟩))), (8, SlcA kInt t104), (9, PtrA [HdA g115.1, HdA g115.2]), (10, EqA (.pointer (some ⟨b121, 0, none⟩))), (11, iA x11)]) (fun (g0 : (Value × Value)) (x9_0 : (List Int)) (y0 : (List Int)) (y2 : (List (List Int))) (_ : Int) => [BoxE b100 [EqA (.slice none 0 0), EqA (.slice none 0 0), EqA (.slice none 0 0)], BoxE b101 [EqA (.slice none 0 0), EqA (.slice none 0 0)], SlE 3 g115.1 kInt x9_0, SlE 3 g115.2 kInt (List.replicate ((a1.fGraph.fEdges.length : Int) : Int).toNat (0 : Int)), BoxE b121 [HdA g0.1, EqA (.slice none 0 0), HdA g0.2], SlE 3 g0.1 kInt y0, SlE 26 g0.2 (kSl kInt) y2]) h ((.slice none 0 0), (.slice none 0 0)) (.o4 rfl (.o2 rfl (.one rfl (.nil _)))) rfl (fun rec0 K0 next0 g0 x9_0 y0 y2 x11 h => ?_)
   unfold ref15_Canonical.b0 at h
   refine W.seq <| sr <| mv rfl rfl <| mv rfl rfl <| p1 rfl 39 rfl (q_len rfl elS26) <| p2 rfl 38 rfl 40 rfl (q_int rfl rfl) <| nt ?_
   refine W.condP h rfl (fun hb530 h => ?_) (fun hb530 h => ?_)
   ·refine W.skip <| QN.then_ <| W.seq <| W.block <| W.seq <| W.drawK [(0, false), (1, false), (2, false), (3, false), (4, false), (5, false), (6, false), (7, true)] [8] (bm [0, 1, 0, 0, 12, 28, 0, 127, 255]) mx (by kernel_rfl) <| df rfl rfl rfl fo47_0 rfl <| dl rfl rfl rfl sh26 <| dm rfl rfl rfl <| dm rfl rfl rfl ?_
    obtain ⟨c535, h⟩ := ite_n h
    refine DK.cons rfl rfl (.p rfl (.s 46 rfl (.s 47 rfl .nil)) rfl (q_index rfl el26 rfl c535.1 c535.2)) <| dl rfl rfl rfl sh3 <| dm rfl rfl rfl ?_
    obtain ⟨c536, h⟩ := ite_n h
    refine DK.cons rfl rfl (.o rfl (.s 45 rfl (.s 49 rfl .nil)) rfl (q_indexO rfl el26 (j := 2) rfl c536.1 c536.2)) <| DK.nil <| CSteps.w0 [2] rfl rfl rfl (.s 51 rfl (.s 50 rfl .nil)) rfl (w_storeEl (kd := kInt) (z := x11) rfl sh3 (CellsOf.one rfl) rfl rfl rfl c536.1 c536.2 rfl rfl) ?_
    rintro _ _ ⟨rfl, rfl⟩
    refine CSteps.nil <| QN.weaken (env' := [(11, _), (10, _), (9, _), (8, _), (5, _), (4, _), (3, _)]) (.o4 rfl (.o2 rfl (.one rfl (.nil _)))) <| QN.then_ <| W.seq <| W.drawK [(0, false), (1, false), (2, true), (3, false), (4, false), (5, false), (6, false), (7, false), (8, false), (9, false), (10, false), (11, false), (12, false)] [13, 14, 15, 16] (bm [0, 1, 3, 0, 8, 24, 0, 0, 192, 448, 1016, 2040, 4088, 8191, 16383, 32767, 65535]) mx (by kernel_rfl) <| DK.cons rfl rfl (.p rfl (.s 10 rfl .nil) rfl (q_fieldP rfl fo32_0)) <| DK.cons rfl rfl (.p rfl (.s 52 rfl .nil) rfl (q_fieldP rfl fo29_0)) <| DK.cons rfl rfl (.o rfl (.s 53 rfl .nil) rfl (q_loadB rfl sh26 (i := 4) rfl rfl)) <| df rfl rfl rfl fo32_0 rfl <| df rfl rfl rfl fo29_0 rfl <| dl rfl rfl rfl sh26 <| dm rfl rfl rfl <| dm rfl rfl rfl ?_
    obtain ⟨c545, h⟩ := ite_n h
    refine DK.cons rfl rfl (.p rfl (.s 58 rfl (.s 59 rfl .nil)) rfl (q_index rfl el26 rfl c545.1 c545.2)) <| dl rfl rfl rfl sh3 ?_
    obtain ⟨c546, h⟩ := ite_n h
    refine DK.cons rfl rfl (.p rfl (.s 57 rfl (.s 61 rfl .nil)) rfl (q_index rfl el26 rfl c546.1 c546.2)) <| dl rfl rfl rfl sh3 <| DK.cons rfl rfl (.p rfl (.s 63 rfl .nil) rfl (q_lit (kd := kInt) (ps := [(0, .tmp 63)]) (xs := [.tmp 63]) («as» := [iA (rd a1.fGraph.fNodes (rd t104 x11))]) (ys := [(rd a1.fGraph.fNodes (rd t104 x11))]) rfl rfl el26 rfl gr3 rfl rfl rfl (.cons (CellsOf.one rfl) .nil))) ?_
    obtain ⟨c547, h⟩ := ite_n h
    refine DK.nil <| CSteps.w [5] rfl rfl rfl rfl (.s 54 rfl (.s 64 rfl .nil)) rfl (w_append (kd := kInt) rfl el26 rfl gr3 c547) ?_
    rintro _ _ ⟨v548, rfl, rfl⟩
    refine CSteps.p rfl rfl rfl (.s 10 rfl .nil) rfl (q_fieldP rfl fo32_0) <| CSteps.p rfl rfl rfl (.s 66 rfl .nil) rfl (q_fieldP rfl fo29_0) <| CSteps.w0 [5] rfl rfl rfl (.s 67 rfl (.s 65 rfl .nil)) rfl (w_store (L := [HdA v548, EqA (.slice none 0 0), HdA g0.2]) rfl sh26 (CellsOf.one rfl) rfl rfl (leB rfl) rfl) ?_
    rintro _ _ ⟨rfl, rfl⟩
    refine CSteps.nil <| QN.weaken (env' := [(11, _), (10, _), (9, _), (8, _), (5, _), (4, _), (3, _)]) (.o4 rfl (.o2 rfl (.one rfl (.nil _)))) <| QN.then_ <| W.drawK [(0, false), (1, true), (2, false), (3, false), (4, false), (5, false), (6, false), (7, false), (8, false), (9, false), (10, false), (11, false), (12, false)] [13, 14, 15] (bm [0, 1, 0, 0, 8, 0, 0, 96, 224, 504, 1016, 2044, 4092, 8191, 16383, 32767]) mx (by kernel_rfl) <| DK.cons rfl rfl (.p rfl (.s 10 rfl .nil) rfl (q_fieldP rfl fo32_1)) <| DK.cons rfl rfl (.o rfl (.s 68 rfl .nil) rfl (q_loadB rfl sh30 (i := 0) rfl rfl)) <| DK.cons rfl rfl (.p rfl .nil rfl (q_lit0 rfl el26 gr3)) <| df rfl rfl rfl fo32_1 rfl <| dl rfl rfl rfl sh30 <| dm rfl rfl rfl <| dm rfl rfl rfl ?_
    obtain ⟨c559, h⟩ := ite_n h
    refine DK.cons rfl rfl (.p rfl (.s 73 rfl (.s 74 rfl .nil)) rfl (q_index rfl el26 rfl c559.1 c559.2)) <| dl rfl rfl rfl sh3 ?_
    obtain ⟨c560, h⟩ := ite_n h
    refine DK.cons rfl rfl (.p rfl (.s 72 rfl (.s 76 rfl .nil)) rfl (q_index rfl el30 rfl c560.1 c560.2)) <| dl rfl rfl rfl sh26 ?_
    obtain ⟨c561, h⟩ := ite_n h
    refine DK.cons rfl rfl (.p rfl (.s 70 rfl (.s 78 rfl .nil)) rfl (QS.of_new (w_appendZ (kd := kInt) rfl el26 rfl gr3 c561))) <| DK.cons rfl rfl (.p rfl (.s 79 rfl .nil) rfl (q_lit (kd := (kSl kInt)) (ps := [(0, .tmp 79)]) (xs := [.tmp 79]) («as» := [SlcA kInt (rd a1.fValues (rd t104 x11))]) (ys := [(rd a1.fValues (rd t104 x11))]) rfl rfl el30 rfl gr26 rfl rfl rfl (.cons (CellsOf.one rfl) .nil))) ?_
    obtain ⟨c562, h⟩ := ite_n h
    refine DK.nil <| CSteps.w [6] rfl rfl rfl rfl (.s 69 rfl (.s 80 rfl .nil)) rfl (w_append (kd := (kSl kInt)) rfl el30 rfl gr26 c562) ?_
    rintro _ _ ⟨v563, rfl, rfl⟩
    refine CSteps.p rfl rfl rfl (.s 10 rfl .nil) rfl (q_fieldP rfl fo32_1) <| CSteps.w0 [1] rfl rfl rfl (.s 82 rfl (.s 81 rfl .nil)) rfl (w_store (L := [HdA v548, EqA (.slice none 0 0), HdA v563]) rfl sh30 (CellsOf.one rfl) rfl rfl (leB rfl) rfl) ?_
    rintro _ _ ⟨rfl, rfl⟩
    refine CSteps.nil <| QN.block <| QN.weaken (env' := [(11, _), (10, _), (9, _), (8, _), (5, _), (4, _), (3, _)]) (.o4 rfl (.o2 rfl (.one rfl (.nil _)))) <| QN.then_ <| W.region <| mv rfl rfl ?_
    obtain ⟨c564, h⟩ := ite_n h
    refine pk rfl 42 rfl (q_addR rfl c564) <| av rfl rfl <| WL.nil <| QN.order [4, 4, 3, 3, 0, 1, 0] rfl ?_
    exact next0 (v548, v563) (x9_0.set ((rd t104 x11) : Int).toNat x11) (y0 ++ [(rd a1.fGraph.fNodes (rd t104 x11))]) (y2 ++ [(rd a1.fValues (rd t104 x11))]) (x11 + 1) _ h (.o4 rfl (.o2 rfl (.one rfl (.nil _))))
   ·refine W.exit <| QX.then_ <| QX.then_ <| QX.here <| QN.then_ <| W.seq <| sr <| ak rfl <| nt <| W.block <| W.to (StTo.boxImp [4] rfl (.cons (Imp.id _) (.cons Imp.nilHd (.cons (Imp.id _) .nil)))) ?_
    refine W.to (StTo.newNil 63 kEdge) <| W.order [2, 2, 2, 2, 1, 1, 0, 0] rfl ?_
    refine W.loop3 (Γ := Value) (fun (_ : Value) (_ : (List Int)) (_ : (List Edge)) (x12 : Int) => [(3, PtrA [SlcA kInt a1.fGraph.fNodes, SlcA kEdge a1.fGraph.fEdges, SlcA (kSl kInt) a1.fValues]), (4, EqA (.pointer (some ⟨b100, 0, none⟩))), (5, EqA (.pointer (some ⟨b101, 0, none⟩))), (8, SlcA kInt t104), (9, PtrA [HdA g115.1, HdA g115.2]), (10, EqA (.pointer (some ⟨b121, 0, none⟩))), (12, iA x12)]) (fun (g1 : Value) (x9_1 : (List Int)) (y1 : (List Edge)) (_ : Int) => [BoxE b100 [EqA (.slice none 0 0), EqA (.slice none 0 0), EqA (.slice none 0 0)], BoxE b101 [EqA (.slice none 0 0), EqA (.slice none 0 0)], SlE 3 g115.1 kInt x9_0, SlE 3 g115.2 kInt x9_1, BoxE b121 [HdA g0.1, HdA g1, HdA g0.2], SlE 3 g0.1 kInt y0, SlE 63 g1 kEdge y1, SlE 26 g0.2 (kSl kInt) y2]) h (.slice none 0 0) (.o4 rfl (.o2 rfl (.one rfl (.nil _)))) rfl (fun rec1 K1 next1 g1 x9_1 y1 x12 h => ?_)
    unfold ref15_Canonical.b1 at h
    refine W.seq <| sr <| mv rfl rfl <| mv rfl rfl <| p1 rfl 84 rfl (q_len rfl elS26) <| p2 rfl 83 rfl 85 rfl (q_int rfl rfl) <| nt ?_
    refine W.condP h rfl (fun hb784 h => ?_) (fun hb784 h => ?_)
    ·refine W.skip <| QN.then_ <| W.seq <| W.block <| W.seq <| W.drawK [(0, false), (1, false), (2, false), (3, false), (4, false), (5, false), (6, false), (7, false), (8, false), (9, false), (10, false), (11, false), (12, false), (13, false)] [] (bm [0, 0, 0, 6, 0, 0, 48, 112, 255, 511, 1023, 1023, 2047, 8191]) mx (by kernel_rfl) <| DK.cons rfl rfl (.p rfl (.s 3 rfl .nil) rfl (q_loadS rfl sh32 (leB rfl) rfl)) <| dm rfl rfl rfl <| dm rfl rfl rfl ?_
     obtain ⟨c791, h⟩ := ite_n h
     refine DK.cons rfl rfl (.p rfl (.s 91 rfl (.s 92 rfl .nil)) rfl (q_subH rfl el26 rfl c791.1 c791.2)) <| dm rfl rfl rfl <| dm rfl rfl rfl ?_
     obtain ⟨c792, h⟩ := ite_n h
     refine DK.cons rfl rfl (.p rfl (.s 94 rfl (.s 95 rfl .nil)) rfl (q_index rfl el26 rfl c792.1 c792.2)) <| dl rfl rfl rfl sh3 ?_
     obtain ⟨t793, ht793, h⟩ := bind_s h
     refine DK.cons rfl rfl (.p rfl (.s 90 rfl (.s 93 rfl (.s 97 rfl .nil))) rfl (q_call (f := 63) (A := TupA [SlcA kInt t793.1, SlcA kInt t793.2]) (xs := [.tmp 90, .tmp 93, .tmp 97]) («as» := [AggA [SlcA kInt a1.fGraph.fNodes, SlcA kEdge a1.fGraph.fEdges, SlcA (kSl kInt) a1.fValues], SlcA kInt (t104.take (x12 : Int).toNat), iA (rd t104 x12)]) rfl ca63 (ref15_segment.con k a1 (t104.take (x12 : Int).toNat) (rd t104 x12) t793 ht793) rfl)) <| dm rfl rfl rfl <| DK.cons rfl rfl (.p rfl (.s 89 rfl .nil) rfl (q_extract rfl rfl)) <| DK.cons rfl rfl (.p rfl (.s 89 rfl .nil) rfl (q_extract rfl rfl)) <| DK.cons rfl rfl (.p rfl (.s 99 rfl .nil) rfl (q_assign rfl)) <| DK.cons rfl rfl (.p rfl (.s 100 rfl .nil) rfl (q_assign rfl)) <| DK.nil <| CSteps.nil <| QN.weaken (env' := [(14, _), (12, _), (10, _), (9, _), (8, _), (5, _), (4, _), (3, _)]) (.o4 rfl (.o4 rfl (.nil _))) <| QN.then_ <| sr <| ak rfl ?_
     refine nt <| W.block ?_
     refine W.loop3 (Γ := Value) (fun (_ : Value) (_ : (List Int)) (_ : (List Edge)) (x15 : Int) => [(3, PtrA [SlcA kInt a1.fGraph.fNodes, SlcA kEdge a1.fGraph.fEdges, SlcA (kSl kInt) a1.fValues]), (4, EqA (.pointer (some ⟨b100, 0, none⟩))), (5, EqA (.pointer (some ⟨b101, 0, none⟩))), (8, SlcA kInt t104), (9, PtrA [HdA g115.1, HdA g115.2]), (10, EqA (.pointer (some ⟨b121, 0, none⟩))), (12, iA x12), (14, SlcA kInt t793.2), (15, iA x15)]) (fun (g2 : Value) (x9_1' : (List Int)) (y1' : (List Edge)) (_ : Int) => [BoxE b100 [EqA (.slice none 0 0), EqA (.slice none 0 0), EqA (.slice none 0 0)], BoxE b101 [EqA (.slice none 0 0), EqA (.slice none 0 0)], SlE 3 g115.1 kInt x9_0, SlE 3 g115.2 kInt x9_1', BoxE b121 [HdA g0.1, HdA g2, HdA g0.2], SlE 3 g0.1 kInt y0, SlE 63 g2 kEdge y1', SlE 26 g0.2 (kSl kInt) y2]) h g1 (.o4 rfl (.o4 rfl (.one rfl (.nil _)))) rfl (fun rec2 K2 next2 g2 x9_1' y1' x15 h => ?_)
     unfold ref15_Canonical.b2 at h
     refine W.seq <| sr <| mv rfl rfl <| mv rfl rfl <| p1 rfl 102 rfl (q_len rfl elS26) <| p2 rfl 101 rfl 103 rfl (q_int rfl rfl) <| nt ?_
     refine W.condP h rfl (fun hb858 h => ?_) (fun hb858 h => ?_)
     ·refine W.skip <| QN.then_ <| W.seq <| W.block <| W.seq <| W.drawK [(0, false), (1, false), (2, false), (3, false), (4, false), (5, false), (6, false), (7, false), (8, false)] [9, 10] (bm [0, 1, 3, 0, 0, 24, 56, 127, 255, 0, 1023]) mx (by kernel_rfl) <| df rfl rfl rfl fo32_0 rfl <| df rfl rfl rfl fo29_1 rfl <| dl rfl rfl rfl sh27 <| dm rfl rfl rfl <| dm rfl rfl rfl ?_
      obtain ⟨c865, h⟩ := ite_n h
      refine DK.cons rfl rfl (.p rfl (.s 110 rfl (.s 111 rfl .nil)) rfl (q_index rfl el26 rfl c865.1 c865.2)) <| dl rfl rfl rfl sh3 ?_
      obtain ⟨c866, h⟩ := ite_n h
      refine DK.cons rfl rfl (.p rfl (.s 109 rfl (.s 113 rfl .nil)) rfl (q_index rfl el27 rfl c866.1 c866.2)) <| DK.cons rfl rfl (.p rfl (.s 114 rfl .nil) rfl (q_loadS rfl sh63 (leB rfl) rfl)) <| DK.nil <| CSteps.w [] rfl rfl rfl rfl .nil rfl (w_alloc rfl z63 (l := [iA 0, iA 0, iA 0]) rfl) ?_
      rintro _ _ ⟨b867, rfl, rfl⟩
      refine CSteps.w0 [0] rfl rfl rfl (.s 16 rfl (.s 115 rfl .nil)) rfl (w_store (L := [iA ((rd a1.fGraph.fEdges (rd t793.2 x15)).fType), iA ((rd a1.fGraph.fEdges (rd t793.2 x15)).fFrom), iA ((rd a1.fGraph.fEdges (rd t793.2 x15)).fTo)]) rfl sh63 (CellsOf.agg _) rfl rfl (leB rfl) rfl) ?_
      rintro _ _ ⟨rfl, rfl⟩
      refine CSteps.nil <| QN.to (StTo.still [0] 16 rfl rfl) <| QN.weaken (env' := [(16, _), (15, _), (14, _), (12, _), (10, _), (9, _), (8, _), (5, _), (4, _), (3, _)]) (.o4 rfl (.o4 rfl (.o2 rfl (.nil _)))) <| QN.then_ <| W.seq <| W.drawK [(0, false), (1, false), (2, false), (3, false), (4, false), (5, false), (6, false), (7, false), (8, true), (9, true), (10, true)] [11] (bm [0, 1, 0, 0, 12, 28, 0, 64, 192, 448, 1023, 2047]) mx (by kernel_rfl) <| df rfl rfl rfl fo47_1 rfl <| dl rfl rfl rfl sh26 <| dm rfl rfl rfl <| dm rfl rfl rfl ?_
      obtain ⟨c872, h⟩ := ite_n h
      refine DK.cons rfl rfl (.p rfl (.s 118 rfl (.s 119 rfl .nil)) rfl (q_index rfl el26 rfl c872.1 c872.2)) <| dl rfl rfl rfl sh3 <| DK.cons rfl rfl (.p rfl (.s 10 rfl .nil) rfl (q_fieldP rfl fo32_0)) <| DK.cons rfl rfl (.p rfl (.s 122 rfl .nil) rfl (q_fieldP rfl fo29_1)) <| DK.cons rfl rfl (.o rfl (.s 123 rfl .nil) rfl (q_loadB rfl sh27 (i := 4) rfl rfl)) <| DK.cons rfl rfl (.o rfl (.s 124 rfl .nil) rfl (q_lenO rfl elS27 (i := 6) rfl)) ?_
      obtain ⟨c873, h⟩ := ite_n h
      refine DK.cons rfl rfl (.o rfl (.s 117 rfl (.s 121 rfl .nil)) rfl (q_indexO rfl el26 (j := 3) rfl c873.1 c873.2)) <| DK.nil <| CSteps.w0 [3] rfl rfl rfl (.s 126 rfl (.s 125 rfl .nil)) rfl (w_storeEl (kd := kInt) (z := (y1'.length : Int)) rfl sh3 (CellsOf.one rfl) rfl rfl rfl c873.1 c873.2 rfl rfl) ?_
      rintro _ _ ⟨rfl, rfl⟩
      refine CSteps.nil <| QN.weaken (env' := [(16, _), (15, _), (14, _), (12, _), (10, _), (9, _), (8, _), (5, _), (4, _), (3, _)]) (.o4 rfl (.o4 rfl (.o2 rfl (.nil _)))) <| QN.then_ <| W.drawK [(0, false), (1, false), (2, true), (3, false), (4, false), (5, false), (6, false), (7, false), (8, false), (9, true), (10, true), (11, false), (12, false), (13, false), (14, false), (15, true), (16, true), (17, false), (18, false)] [19, 20, 21, 22] (bm [0, 1, 3, 0, 8, 0, 32, 0, 128, 480, 992, 0, 2048, 0, 8192, 30720, 63488, 131064, 262136, 524287, 1048575, 2097151, 4194303]) mx (by kernel_rfl) <| DK.cons rfl rfl (.p rfl (.s 10 rfl .nil) rfl (q_fieldP rfl fo32_0)) <| DK.cons rfl rfl (.p rfl (.s 127 rfl .nil) rfl (q_fieldP rfl fo29_1)) <| DK.cons rfl rfl (.o rfl (.s 128 rfl .nil) rfl (q_loadB rfl sh27 (i := 4) rfl rfl)) <| df rfl rfl rfl fo63_0 rfl <| dl rfl rfl rfl sh3 <| df rfl rfl rfl fo47_0 rfl <| dl rfl rfl rfl sh26 <| df rfl rfl rfl fo63_1 rfl <| dl rfl rfl rfl sh3 ?_
      obtain ⟨c882, h⟩ := ite_n h
      refine DK.cons rfl rfl (.o rfl (.s 133 rfl (.s 135 rfl .nil)) rfl (q_indexO rfl el26 (j := 3) rfl c882.1 c882.2)) <| DK.cons rfl rfl (.o rfl (.s 136 rfl .nil) rfl (q_loadEl rfl sh3 (j := 3) rfl rfl c882.1 c882.2 rfl)) <| df rfl rfl rfl fo47_0 rfl <| dl rfl rfl rfl sh26 <| df rfl rfl rfl fo63_2 rfl <| dl rfl rfl rfl sh3 ?_
      obtain ⟨c883, h⟩ := ite_n h
      refine DK.cons rfl rfl (.o rfl (.s 139 rfl (.s 141 rfl .nil)) rfl (q_indexO rfl el26 (j := 3) rfl c883.1 c883.2)) <| DK.cons rfl rfl (.o rfl (.s 142 rfl .nil) rfl (q_loadEl rfl sh3 (j := 3) rfl rfl c883.1 c883.2 rfl)) <| DK.cons rfl rfl (.p rfl (.s 131 rfl (.s 137 rfl (.s 143 rfl .nil))) rfl (q_build (is := [0, 1, 2]) (xs := [.tmp 131, .tmp 137, .tmp 143]) (L := [iA ((rd a1.fGraph.fEdges (rd t793.2 x15)).fType), iA (rd x9_0 ((rd a1.fGraph.fEdges (rd t793.2 x15)).fFrom)), iA (rd x9_0 ((rd a1.fGraph.fEdges (rd t793.2 x15)).fTo))]) rfl rfl z63 pl63 rfl rfl (.cons (CellsOf.one rfl) (.cons (CellsOf.one rfl) (.cons (CellsOf.one rfl) .nil))) rfl)) <| DK.cons rfl rfl (.p rfl (.s 144 rfl .nil) rfl (q_lit (kd := kEdge) (ps := [(0, .tmp 144)]) (xs := [.tmp 144]) («as» := [AggA [iA ((rd a1.fGraph.fEdges (rd t793.2 x15)).fType), iA (rd x9_0 ((rd a1.fGraph.fEdges (rd t793.2 x15)).fFrom)), iA (rd x9_0 ((rd a1.fGraph.fEdges (rd t793.2 x15)).fTo))]]) (ys := [(Edge.mk ((rd a1.fGraph.fEdges (rd t793.2 x15)).fType) (rd x9_0 ((rd a1.fGraph.fEdges (rd t793.2 x15)).fFrom)) (rd x9_0 ((rd a1.fGraph.fEdges (rd t793.2 x15)).fTo)))]) rfl rfl el27 rfl gr63 rfl rfl rfl (.cons (CellsOf.agg _) .nil))) ?_
      obtain ⟨c884, h⟩ := ite_n h
      refine DK.nil <| CSteps.w [6] rfl rfl rfl rfl (.s 129 rfl (.s 145 rfl .nil)) rfl (w_append (kd := kEdge) rfl el27 rfl gr63 c884) ?_
      rintro _ _ ⟨v885, rfl, rfl⟩
      refine CSteps.p rfl rfl rfl (.s 10 rfl .nil) rfl (q_fieldP rfl fo32_0) <| CSteps.p rfl rfl rfl (.s 147 rfl .nil) rfl (q_fieldP rfl fo29_1) <| CSteps.w0 [5] rfl rfl rfl (.s 148 rfl (.s 146 rfl .nil)) rfl (w_store (L := [HdA g0.1, HdA v885, HdA g0.2]) rfl sh27 (CellsOf.one rfl) rfl rfl (leB rfl) rfl) ?_
      rintro _ _ ⟨rfl, rfl⟩
      refine CSteps.nil <| QN.block <| QN.weaken (env' := [(15, _), (14, _), (12, _), (10, _), (9, _), (8, _), (5, _), (4, _), (3, _)]) (.o4 rfl (.o4 rfl (.one rfl (.nil _)))) <| QN.then_ <| W.region <| mv rfl rfl ?_
      obtain ⟨c886, h⟩ := ite_n h
      refine pk rfl 105 rfl (q_addR rfl c886) <| av rfl rfl <| WL.nil <| QN.order [3, 3, 3, 2, 0, 1, 0, 0] rfl ?_
      exact next2 v885 (x9_1'.set ((rd t793.2 x15) : Int).toNat (y1'.length : Int)) (y1' ++ [(Edge.mk ((rd a1.fGraph.fEdges (rd t793.2 x15)).fType) (rd x9_0 ((rd a1.fGraph.fEdges (rd t793.2 x15)).fFrom)) (rd x9_0 ((rd a1.fGraph.fEdges (rd t793.2 x15)).fTo)))]) (x15 + 1) _ h (.o4 rfl (.o4 rfl (.one rfl (.nil _))))
     ·refine W.exit <| QX.then_ <| QX.then_ <| QX.here <| QN.block <| QN.then_ <| W.region <| mv rfl rfl ?_
      obtain ⟨c887, h⟩ := ite_n h
      refine pk rfl 87 rfl (q_addR rfl c887) <| av rfl rfl <| WL.nil ?_
      exact next1 g2 x9_1' y1' (x12 + 1) _ h (.o4 rfl (.o2 rfl (.one rfl (.nil _))))
    ·refine W.exit <| QX.then_ <| QX.then_ <| QX.here <| QN.weaken (env' := [(10, _), (9, _), (5, _), (4, _)]) (.o4 rfl (.nil _)) <| QN.then_ <| W.seq <| W.drawK [(0, true), (1, false)] [2, 3, 4] (bm [0, 0, 1, 7, 15]) mx (by kernel_rfl) <| DK.cons rfl rfl (.o rfl (.s 10 rfl .nil) rfl (q_loadBS (l' := [HdA g0.1, HdA g1, HdA g0.2]) rfl sh32 (i := 4) rfl rfl rfl)) <| DK.cons rfl rfl (.p rfl (.s 9 rfl .nil) rfl (q_loadS rfl sh47 (leB rfl) rfl)) <| DK.nil <| CSteps.w0 [0] rfl rfl rfl (.s 4 rfl (.s 149 rfl .nil)) rfl (w_store (L := [HdA g0.1, HdA g1, HdA g0.2]) rfl sh32 (CellsOf.agg _) rfl rfl (leB rfl) rfl) ?_
     rintro _ _ ⟨rfl, rfl⟩
     refine CSteps.w0 [1] rfl rfl rfl (.s 5 rfl (.s 150 rfl .nil)) rfl (w_store (L := [HdA g115.1, HdA g115.2]) rfl sh47 (CellsOf.agg _) rfl rfl (leB rfl) rfl) ?_
     rintro _ _ ⟨rfl, rfl⟩
     refine CSteps.p rfl rfl rfl (.k .nil) rfl (q_assign rfl) <| CSteps.nil <| QN.then_ <| W.ret ?_
     cases h
     exact QR.f3 rfl rfl (.cs (i := 1) rfl sh32 rfl rfl) (.cs (i := 0) rfl sh47 rfl rfl) (.t rfl) (.tup (.cons (.agg (.cons (.slc 5 rfl) (.cons (.slc 6 rfl) (.cons (.slc 7 rfl) .nil)))) (.cons (.agg (.cons (.slc 2 rfl) (.cons (.slc 3 rfl) .nil))) (.cons (.id _) .nil))))
  ·refine W.drawKT [(0, false), (1, false), (2, false), (3, false), (5, false), (6, false), (7, false), (8, false)] [4, 9, 10, 11, 12] [4, 9, 10, 11] 5 [[], [0], [0, 1], [0, 1, 2], [0, 1, 2, 3], [], [5], [5, 6], [5, 6, 7], [5, 6, 7, 8], [0, 1, 2, 3, 4, 5, 6, 7, 8, 9], [], [0, 1, 2, 3, 4, 5, 6, 7, 8, 9, 10, 11]] mx (by kernel_rfl) <| DKT.cons rfl rfl (.p rfl (.s 3 rfl .nil) rfl (q_field rfl fo32_0 rfl)) <| DKT.cons rfl rfl (.p rfl (.s 27 rfl .nil) rfl (q_field rfl fo29_0 rfl)) <| DKT.cons rfl rfl (.p rfl (.s 28 rfl .nil) rfl (q_load rfl sh26)) <| DKT.cons rfl rfl (.p rfl (.s 29 rfl .nil) rfl (q_len rfl elS26)) ?_
   obtain ⟨c888, h⟩ := ite_n h
   refine DKT.cons rfl rfl (.p rfl (.s 3 rfl .nil) rfl (q_field rfl fo32_0 rfl)) <| DKT.cons rfl rfl (.p rfl (.s 32 rfl .nil) rfl (q_field rfl fo29_1 rfl)) <| DKT.cons rfl rfl (.p rfl (.s 33 rfl .nil) rfl (q_load rfl sh27)) <| DKT.cons rfl rfl (.p rfl (.s 34 rfl .nil) rfl (q_len rfl elS27)) ?_
   obtain ⟨c890, h⟩ := ite_n h
   refine DKT.nil <| CT.step ?_
   refine CTc.yes rfl ?_ ?_
   ·refine CStep1.w [] (fun _ => rfl) rfl rfl rfl rfl (.s 30 rfl (.s 30 rfl .nil)) rfl (w_make (kd := kInt) (z := (0 : Int)) rfl el26 rfl gr3 z3 rfl c888.1 c888.2) ?_
    rintro _ _ ⟨v889, rfl, rfl⟩
    refine CT.list (l' := [9, 10, 11, 12]) rfl <| CT.step ?_
    refine CTc.yes rfl ?_ ?_
    ·refine CStep1.w [] (fun _ => rfl) rfl rfl rfl rfl (.s 35 rfl (.s 35 rfl .nil)) rfl (w_make (kd := kInt) (z := (0 : Int)) rfl el26 rfl gr3 z3 rfl c890.1 c890.2) ?_
     rintro _ _ ⟨v891, rfl, rfl⟩
     refine CT.list (l' := [10, 11, 12]) rfl <| CT.step ?_
     refine CTc.yes rfl ?_ ?_
     ·refine CStep1.p rfl rfl rfl (.s 31 rfl (.s 36 rfl .nil)) rfl (q_build (is := [0, 1]) (xs := [.tmp 31, .tmp 36]) (L := [HdA v889, HdA v891]) rfl rfl z47 pl47 rfl rfl (.cons (CellsOf.one rfl) (.cons (CellsOf.one rfl) .nil)) rfl) <| CT.list (l' := [11, 12]) rfl <| CT.step ?_
      refine CTc.yes rfl ?_ ?_
      ·refine CStep1.w [] (fun _ => rfl) rfl rfl rfl rfl .nil rfl (w_alloc rfl z47 (l := [EqA (.slice none 0 0), EqA (.slice none 0 0)]) rfl) ?_
       rintro _ _ ⟨b892, rfl, rfl⟩
       refine CT.list (l' := [12]) rfl <| CT.step ?_
       refine CTc.yes rfl ?_ ?_
       ·refine CStep1.w0 [0] (fun h => absurd h (by decide)) rfl rfl rfl (.s 9 rfl (.s 37 rfl .nil)) rfl (w_store (L := [HdA v889, HdA v891]) rfl sh47 (CellsOf.agg _) rfl rfl (leB rfl) rfl) ?_
        rintro _ _ ⟨rfl, rfl⟩
        refine CT.list (l' := []) rfl <| CT.nil <| QN.to (StTo.still [0] 9 rfl rfl) <| QN.order [3, 2, 1, 0] rfl ?_
        exact QN.weaken (.o4 rfl (.one rfl (.nil _))) (Kj120 (v889, v891) h)
       exact CTc.end
      refine CTc.no rfl ?_
      exact CTc.end
     refine CTc.yes rfl ?_ ?_
     ·refine CStep1.w [] (fun _ => rfl) rfl rfl rfl rfl .nil rfl (w_alloc rfl z47 (l := [EqA (.slice none 0 0), EqA (.slice none 0 0)]) rfl) ?_
      rintro _ _ ⟨b892, rfl, rfl⟩
      refine CT.list (l' := [10, 12]) rfl <| CT.step ?_
      refine CTc.yes rfl ?_ ?_
      ·refine CStep1.p rfl rfl rfl (.s 31 rfl (.s 36 rfl .nil)) rfl (q_build (is := [0, 1]) (xs := [.tmp 31, .tmp 36]) (L := [HdA v889, HdA v891]) rfl rfl z47 pl47 rfl rfl (.cons (CellsOf.one rfl) (.cons (CellsOf.one rfl) .nil)) rfl) <| CT.list (l' := [12]) rfl <| CT.step ?_
       refine CTc.yes rfl ?_ ?_
       ·refine CStep1.w0 [0] (fun h => absurd h (by decide)) rfl rfl rfl (.s 9 rfl (.s 37 rfl .nil)) rfl (w_store (L := [HdA v889, HdA v891]) rfl sh47 (CellsOf.agg _) rfl rfl (leB rfl) rfl) ?_
        rintro _ _ ⟨rfl, rfl⟩
        refine CT.list (l' := []) rfl <| CT.nil <| QN.to (StTo.still [0] 9 rfl rfl) <| QN.order [3, 2, 1, 0] rfl ?_
        exact QN.weaken (.o4 rfl (.one rfl (.nil _))) (Kj120 (v889, v891) h)
       exact CTc.end
      refine CTc.no rfl ?_
      exact CTc.end
     refine CTc.no rfl ?_
     exact CTc.end
    refine CTc.no rfl ?_
    refine CTc.yes rfl ?_ ?_
    ·refine CStep1.w [] (fun _ => rfl) rfl rfl rfl rfl .nil rfl (w_alloc rfl z47 (l := [EqA (.slice none 0 0), EqA (.slice none 0 0)]) rfl) ?_
     rintro _ _ ⟨b892, rfl, rfl⟩
     refine CT.list (l' := [9, 10, 12]) rfl <| CT.step ?_
     refine CTc.yes rfl ?_ ?_
     ·refine CStep1.w [] (fun _ => rfl) rfl rfl rfl rfl (.s 35 rfl (.s 35 rfl .nil)) rfl (w_make (kd := kInt) (z := (0 : Int)) rfl el26 rfl gr3 z3 rfl c890.1 c890.2) ?_
      rintro _ _ ⟨v891, rfl, rfl⟩
      refine CT.list (l' := [10, 12]) rfl <| CT.step ?_
      refine CTc.yes rfl ?_ ?_
      ·refine CStep1.p rfl rfl rfl (.s 31 rfl (.s 36 rfl .nil)) rfl (q_build (is := [0, 1]) (xs := [.tmp 31, .tmp 36]) (L := [HdA v889, HdA v891]) rfl rfl z47 pl47 rfl rfl (.cons (CellsOf.one rfl) (.cons (CellsOf.one rfl) .nil)) rfl) <| CT.list (l' := [12]) rfl <| CT.step ?_
       refine CTc.yes rfl ?_ ?_
       ·refine CStep1.w0 [1] (fun h => absurd h (by decide)) rfl rfl rfl (.s 9 rfl (.s 37 rfl .nil)) rfl (w_store (L := [HdA v889, HdA v891]) rfl sh47 (CellsOf.agg _) rfl rfl (leB rfl) rfl) ?_
        rintro _ _ ⟨rfl, rfl⟩
        refine CT.list (l' := []) rfl <| CT.nil <| QN.to (StTo.still [0] 9 rfl rfl) <| QN.order [3, 2, 1, 0] rfl ?_
        exact QN.weaken (.o4 rfl (.one rfl (.nil _))) (Kj120 (v889, v891) h)
       exact CTc.end
      refine CTc.no rfl ?_
      exact CTc.end
     refine CTc.no rfl <| CTc.no rfl ?_
     exact CTc.end
    refine CTc.no rfl ?_
    exact CTc.end
   refine CTc.yes rfl ?_ ?_
   ·refine CStep1.w [] (fun _ => rfl) rfl rfl rfl rfl (.s 35 rfl (.s 35 rfl .nil)) rfl (w_make (kd := kInt) (z := (0 : Int)) rfl el26 rfl gr3 z3 rfl c890.1 c890.2) ?_
    rintro _ _ ⟨v891, rfl, rfl⟩
    refine CT.list (l' := [4, 10, 11, 12]) rfl <| CT.step ?_
    refine CTc.yes rfl ?_ ?_
    ·refine CStep1.w [] (fun _ => rfl) rfl rfl rfl rfl (.s 30 rfl (.s 30 rfl .nil)) rfl (w_make (kd := kInt) (z := (0 : Int)) rfl el26 rfl gr3 z3 rfl c888.1 c888.2) ?_
     rintro _ _ ⟨v889, rfl, rfl⟩
     refine CT.list (l' := [10, 11, 12]) rfl <| CT.step ?_
     refine CTc.yes rfl ?_ ?_
     ·refine CStep1.p rfl rfl rfl (.s 31 rfl (.s 36 rfl .nil)) rfl (q_build (is := [0, 1]) (xs := [.tmp 31, .tmp 36]) (L := [HdA v889, HdA v891]) rfl rfl z47 pl47 rfl rfl (.cons (CellsOf.one rfl) (.cons (CellsOf.one rfl) .nil)) rfl) <| CT.list (l' := [11, 12]) rfl <| CT.step ?_
      refine CTc.yes rfl ?_ ?_
      ·refine CStep1.w [] (fun _ => rfl) rfl rfl rfl rfl .nil rfl (w_alloc rfl z47 (l := [EqA (.slice none 0 0), EqA (.slice none 0 0)]) rfl) ?_
       rintro _ _ ⟨b892, rfl, rfl⟩
       refine CT.list (l' := [12]) rfl <| CT.step ?_
       refine CTc.yes rfl ?_ ?_
       ·refine CStep1.w0 [0] (fun h => absurd h (by decide)) rfl rfl rfl (.s 9 rfl (.s 37 rfl .nil)) rfl (w_store (L := [HdA v889, HdA v891]) rfl sh47 (CellsOf.agg _) rfl rfl (leB rfl) rfl) ?_
        rintro _ _ ⟨rfl, rfl⟩
        refine CT.list (l' := []) rfl <| CT.nil <| QN.to (StTo.still [0] 9 rfl rfl) <| QN.order [3, 2, 0, 0] rfl ?_
        exact QN.weaken (.o4 rfl (.one rfl (.nil _))) (Kj120 (v889, v891) h)
       exact CTc.end
      refine CTc.no rfl ?_
      exact CTc.end
     refine CTc.yes rfl ?_ ?_
     ·refine CStep1.w [] (fun _ => rfl) rfl rfl rfl rfl .nil rfl (w_alloc rfl z47 (l := [EqA (.slice none 0 0), EqA (.slice none 0 0)]) rfl) ?_
      rintro _ _ ⟨b892, rfl, rfl⟩
      refine CT.list (l' := [10, 12]) rfl <| CT.step ?_
      refine CTc.yes rfl ?_ ?_
      ·refine CStep1.p rfl rfl rfl (.s 31 rfl (.s 36 rfl .nil)) rfl (q_build (is := [0, 1]) (xs := [.tmp 31, .tmp 36]) (L := [HdA v889, HdA v891]) rfl rfl z47 pl47 rfl rfl (.cons (CellsOf.one rfl) (.cons (CellsOf.one rfl) .nil)) rfl) <| CT.list (l' := [12]) rfl <| CT.step ?_
       refine CTc.yes rfl ?_ ?_
       ·refine CStep1.w0 [0] (fun h => absurd h (by decide)) rfl rfl rfl (.s 9 rfl (.s 37 rfl .nil)) rfl (w_store (L := [HdA v889, HdA v891]) rfl sh47 (CellsOf.agg _) rfl rfl (leB rfl) rfl) ?_
        rintro _ _ ⟨rfl, rfl⟩
        refine CT.list (l' := []) rfl <| CT.nil <| QN.to (StTo.still [0] 9 rfl rfl) <| QN.order [3, 2, 0, 0] rfl ?_
        exact QN.weaken (.o4 rfl (.one rfl (.nil _))) (Kj120 (v889, v891) h)
       exact CTc.end
      refine CTc.no rfl ?_
      exact CTc.end
     refine CTc.no rfl ?_
     exact CTc.end
    refine CTc.no rfl ?_
    refine CTc.yes rfl ?_ ?_
    ·refine CStep1.w [] (fun _ => rfl) rfl rfl rfl rfl .nil rfl (w_alloc rfl z47 (l := [EqA (.slice none 0 0), EqA (.slice none 0 0)]) rfl) ?_
     rintro _ _ ⟨b892, rfl, rfl⟩
     refine CT.list (l' := [4, 10, 12]) rfl <| CT.step ?_
     refine CTc.yes rfl ?_ ?_
     ·refine CStep1.w [] (fun _ => rfl) rfl rfl rfl rfl (.s 30 rfl (.s 30 rfl .nil)) rfl (w_make (kd := kInt) (z := (0 : Int)) rfl el26 rfl gr3 z3 rfl c888.1 c888.2) ?_
      rintro _ _ ⟨v889, rfl, rfl⟩
      refine CT.list (l' := [10, 12]) rfl <| CT.step ?_
      refine CTc.yes rfl ?_ ?_
      ·refine CStep1.p rfl rfl rfl (.s 31 rfl (.s 36 rfl .nil)) rfl (q_build (is := [0, 1]) (xs := [.tmp 31, .tmp 36]) (L := [HdA v889, HdA v891]) rfl rfl z47 pl47 rfl rfl (.cons (CellsOf.one rfl) (.cons (CellsOf.one rfl) .nil)) rfl) <| CT.list (l' := [12]) rfl <| CT.step ?_
       refine CTc.yes rfl ?_ ?_
       ·refine CStep1.w0 [1] (fun h => absurd h (by decide)) rfl rfl rfl (.s 9 rfl (.s 37 rfl .nil)) rfl (w_store (L := [HdA v889, HdA v891]) rfl sh47 (CellsOf.agg _) rfl rfl (leB rfl) rfl) ?_
        rintro _ _ ⟨rfl, rfl⟩
        refine CT.list (l' := []) rfl <| CT.nil <| QN.to (StTo.still [0] 9 rfl rfl) <| QN.order [3, 2, 0, 0] rfl ?_
        exact QN.weaken (.o4 rfl (.one rfl (.nil _))) (Kj120 (v889, v891) h)
       exact CTc.end
      refine CTc.no rfl ?_
      exact CTc.end
     refine CTc.no rfl <| CTc.no rfl ?_
     exact CTc.end
    refine CTc.no rfl ?_
    exact CTc.end
   refine CTc.no rfl ?_
   refine CTc.yes rfl ?_ ?_
   ·refine CStep1.w [] (fun _ => rfl) rfl rfl rfl rfl .nil rfl (w_alloc rfl z47 (l := [EqA (.slice none 0 0), EqA (.slice none 0 0)]) rfl) ?_
    rintro _ _ ⟨b892, rfl, rfl⟩
    refine CT.list (l' := [4, 9, 10, 12]) rfl <| CT.step ?_
    refine CTc.yes rfl ?_ ?_
    ·refine CStep1.w [] (fun _ => rfl) rfl rfl rfl rfl (.s 30 rfl (.s 30 rfl .nil)) rfl (w_make (kd := kInt) (z := (0 : Int)) rfl el26 rfl gr3 z3 rfl c888.1 c888.2) ?_
     rintro _ _ ⟨v889, rfl, rfl⟩
     refine CT.list (l' := [9, 10, 12]) rfl <| CT.step ?_
     refine CTc.yes rfl ?_ ?_
     ·refine CStep1.w [] (fun _ => rfl) rfl rfl rfl rfl (.s 35 rfl (.s 35 rfl .nil)) rfl (w_make (kd := kInt) (z := (0 : Int)) rfl el26 rfl gr3 z3 rfl c890.1 c890.2) ?_
      rintro _ _ ⟨v891, rfl, rfl⟩
      refine CT.list (l' := [10, 12]) rfl <| CT.step ?_
      refine CTc.yes rfl ?_ ?_
      ·refine CStep1.p rfl rfl rfl (.s 31 rfl (.s 36 rfl .nil)) rfl (q_build (is := [0, 1]) (xs := [.tmp 31, .tmp 36]) (L := [HdA v889, HdA v891]) rfl rfl z47 pl47 rfl rfl (.cons (CellsOf.one rfl) (.cons (CellsOf.one rfl) .nil)) rfl) <| CT.list (l' := [12]) rfl <| CT.step ?_
       refine CTc.yes rfl ?_ ?_
       ·refine CStep1.w0 [2] (fun h => absurd h (by decide)) rfl rfl rfl (.s 9 rfl (.s 37 rfl .nil)) rfl (w_store (L := [HdA v889, HdA v891]) rfl sh47 (CellsOf.agg _) rfl rfl (leB rfl) rfl) ?_
        rintro _ _ ⟨rfl, rfl⟩
        refine CT.list (l' := []) rfl <| CT.nil <| QN.to (StTo.still [0] 9 rfl rfl) <| QN.order [3, 2, 1, 0] rfl ?_
        exact QN.weaken (.o4 rfl (.one rfl (.nil _))) (Kj120 (v889, v891) h)
       exact CTc.end
      refine CTc.no rfl ?_
      exact CTc.end
     refine CTc.no rfl <| CTc.no rfl ?_
     exact CTc.end
    refine CTc.yes rfl ?_ ?_
    ·refine CStep1.w [] (fun _ => rfl) rfl rfl rfl rfl (.s 35 rfl (.s 35 rfl .nil)) rfl (w_make (kd := kInt) (z := (0 : Int)) rfl el26 rfl gr3 z3 rfl c890.1 c890.2) ?_
     rintro _ _ ⟨v891, rfl, rfl⟩
     refine CT.list (l' := [4, 10, 12]) rfl <| CT.step ?_
     refine CTc.yes rfl ?_ ?_
     ·refine CStep1.w [] (fun _ => rfl) rfl rfl rfl rfl (.s 30 rfl (.s 30 rfl .nil)) rfl (w_make (kd := kInt) (z := (0 : Int)) rfl el26 rfl gr3 z3 rfl c888.1 c888.2) ?_
      rintro _ _ ⟨v889, rfl, rfl⟩
      refine CT.list (l' := [10, 12]) rfl <| CT.step ?_
      refine CTc.yes rfl ?_ ?_
      ·refine CStep1.p rfl rfl rfl (.s 31 rfl (.s 36 rfl .nil)) rfl (q_build (is := [0, 1]) (xs := [.tmp 31, .tmp 36]) (L := [HdA v889, HdA v891]) rfl rfl z47 pl47 rfl rfl (.cons (CellsOf.one rfl) (.cons (CellsOf.one rfl) .nil)) rfl) <| CT.list (l' := [12]) rfl <| CT.step ?_
       refine CTc.yes rfl ?_ ?_
       ·refine CStep1.w0 [2] (fun h => absurd h (by decide)) rfl rfl rfl (.s 9 rfl (.s 37 rfl .nil)) rfl (w_store (L := [HdA v889, HdA v891]) rfl sh47 (CellsOf.agg _) rfl rfl (leB rfl) rfl) ?_
        rintro _ _ ⟨rfl, rfl⟩
        refine CT.list (l' := []) rfl <| CT.nil <| QN.to (StTo.still [0] 9 rfl rfl) <| QN.order [3, 2, 0, 0] rfl ?_
        exact QN.weaken (.o4 rfl (.one rfl (.nil _))) (Kj120 (v889, v891) h)
       exact CTc.end
      refine CTc.no rfl ?_
      exact CTc.end
     refine CTc.no rfl <| CTc.no rfl ?_
     exact CTc.end
    refine CTc.no rfl <| CTc.no rfl ?_
    exact CTc.end
   refine CTc.no rfl ?_
   exact CTc.end
theorem ref02_SameInts.con (k : Nat) (a0 : (List Int)) (a1 : (List Int)) (r : Bool) (h : ref02_SameInts k a0 a1 = some r) : Con Tryz.prog 66 [] [SlcA kInt a0, SlcA kInt a1] (RA (bA r)) := by
 unfold ref02_SameInts at h
 refine Con.of (N := 26) Tryz.func66 rfl rfl rfl fun w0_ fg_ => sr <| ak rfl <| nt <| W.seq <| sr <| mv rfl rfl <| p1 rfl 6 rfl (q_len rfl elS26) <| mv rfl rfl <| p1 rfl 8 rfl (q_len rfl elS26) ?_
 refine p2 rfl 7 rfl 9 rfl (q_int rfl rfl) <| nt ?_
 refine W.condP h rfl (fun hb100 h => ?_) (fun hb100 h => ?_)
 ·refine sr <| ak rfl <| WL.nil <| QN.weaken (env' := [(4, _)]) (.one rfl (.nil _)) <| QN.then_ <| W.ret <| QR.then_ ?_
  cases h
  exact QR.f1 rfl rfl (.t rfl) (.id _)
 ·refine W.skip <| QN.then_ <| W.seq <| sr <| ak rfl <| nt <| W.block ?_
  refine W.loop1 (Γ := Unit) (fun (_ : Unit) (x5 : Int) => [(0, SlcA kInt a0), (1, SlcA kInt a1), (5, iA x5)]) (fun (_ : Unit) (_ : Int) => []) h () (.o2 rfl (.one rfl (.nil _))) rfl (fun rec0 K0 next0 _ x5 h => ?_)
  unfold ref02_SameInts.b0 at h
  refine W.seq <| sr <| mv rfl rfl <| mv rfl rfl <| p1 rfl 12 rfl (q_len rfl elS26) <| p2 rfl 11 rfl 13 rfl (q_int rfl rfl) <| nt ?_
  refine W.condP h rfl (fun hb119 h => ?_) (fun hb119 h => ?_)
  ·refine W.skip <| QN.then_ <| W.seq <| W.block <| W.seq <| W.drawK [(0, false), (1, false), (2, false), (3, false), (4, false), (5, false), (6, false), (7, false), (8, false)] [] (bm [0, 0, 3, 7, 0, 0, 48, 112, 255]) mx (by kernel_rfl) <| dm rfl rfl rfl <| dm rfl rfl rfl ?_
   obtain ⟨c124, h⟩ := ite_n h
   refine DK.cons rfl rfl (.p rfl (.s 17 rfl (.s 18 rfl .nil)) rfl (q_index rfl el26 rfl c124.1 c124.2)) <| dl rfl rfl rfl sh3 <| dm rfl rfl rfl <| dm rfl rfl rfl ?_
   obtain ⟨c125, h⟩ := ite_n h
   refine DK.cons rfl rfl (.p rfl (.s 21 rfl (.s 22 rfl .nil)) rfl (q_index rfl el26 rfl c125.1 c125.2)) <| dl rfl rfl rfl sh3 <| DK.cons rfl rfl (.p rfl (.s 20 rfl (.s 24 rfl .nil)) rfl (q_int rfl rfl)) <| DK.nil <| CSteps.nil <| QN.weaken (env' := [(25, _), (5, _), (1, _), (0, _)]) (.o4 rfl (.nil _)) <| QN.then_ ?_
   refine W.condP h rfl (fun hb126 h => ?_) (fun hb126 h => ?_)
   ·refine sr <| ak rfl <| nt <| W.ret <| QR.block <| QR.then_ <| QR.then_ <| QR.block <| QR.then_ ?_
    cases h
    exact QR.f1 rfl rfl (.t rfl) (.id _)
   ·refine W.skip <| QN.block <| QN.then_ <| W.region <| mv rfl rfl ?_
    obtain ⟨c127, h⟩ := ite_n h
    refine pk rfl 15 rfl (q_addR rfl c127) <| av rfl rfl <| WL.nil ?_
    exact next0 () (x5 + 1) _ h (.o2 rfl (.one rfl (.nil _)))
  ·refine W.exit <| QX.then_ <| QX.then_ <| QX.here <| QN.weaken (env' := []) (.nil _) <| QN.then_ <| sr <| ak rfl <| nt <| W.ret ?_
   cases h
   exact QR.f1 rfl rfl (.t rfl) (.id _)
end Go.Proofs.YthmdmchmmgmblaaGreat
