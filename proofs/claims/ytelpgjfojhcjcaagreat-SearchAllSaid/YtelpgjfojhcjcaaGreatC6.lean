/- The Go functions compute the pure ones. (Printed by gen.py.) -/
import Derived.Test.YtelpgjfojhcjcaaGreatC5
namespace Go.Proofs.YtelpgjfojhcjcaaGreat
open Go Go.Abs
attribute [local irreducible] Tryz.prog
theorem slices_Equal_int.con (k : Nat) (a0 : (List Int)) (a1 : (List Int)) (r : Bool) (h : slices_Equal_int k a0 a1 = some r) : Con Tryz.prog 32 [] [SlcA kInt a0, SlcA kInt a1] (RA (EqA (.bool r))) := by
 unfold slices_Equal_int at h
 refine Con.of (N := 26) Tryz.func32 rfl rfl rfl fun w0_ fg_ => W.seq <| W.region <| WL.p rfl rfl rfl (.k .nil) (q_assign rfl) <| WL.nil <| QN.then_ <| W.seq <| W.seq <| W.region <| WL.p rfl rfl rfl (.s 0 rfl .nil) (q_move rfl) <| WL.p rfl rfl rfl (.s 6 rfl .nil) (q_len rfl elS26) <| WL.p rfl rfl rfl (.s 1 rfl .nil) (q_move rfl) <| WL.p rfl rfl rfl (.s 8 rfl .nil) (q_len rfl elS26) ?_
 refine WL.p rfl rfl rfl (.s 7 rfl (.s 9 rfl .nil)) (q_int rfl rfl) <| WL.nil <| QN.then_ ?_
 refine W.condP h rfl (fun hb4484 h => ?_) (fun hb4484 h => ?_)
 ·refine W.seq <| W.region <| WL.p rfl rfl rfl (.k .nil) (q_assign rfl) <| WL.nil <| QN.weaken (env' := [(4, _)]) (.one rfl (.nil _)) <| QN.then_ <| W.ret <| QR.then_ ?_
  cases h
  exact QR.f1 rfl rfl (.t rfl) (.id _)
 ·refine W.skip <| QN.then_ <| W.seq <| W.seq <| W.region <| WL.p rfl rfl rfl (.s 0 rfl .nil) (q_move rfl) <| WL.p rfl rfl rfl (.s 11 rfl .nil) (q_len rfl elS26) <| WL.p rfl rfl rfl (.k .nil) (q_move rfl) <| WL.nil <| QN.weaken (env' := [(13, _), (12, _), (1, _), (0, _)]) (.one rfl (.one rfl (.one rfl (.one rfl (.nil _))))) <| QN.then_ <| W.block ?_
  refine W.loop1 (Γ := Unit) (fun (_ : Unit) (x13 : Int) => [(0, SlcA kInt a0), (1, SlcA kInt a1), (12, EqA (.int .i64 (a0.length : Int))), (13, EqA (.int .i64 x13))]) (fun (_ : Unit) (_ : Int) => []) h () (.one rfl (.one rfl (.one rfl (.one rfl (.nil _))))) rfl (fun rec0 K0 next0 _ x13 h => ?_)
  unfold slices_Equal_int.b0 at h
  refine W.seq <| W.region <| WL.p rfl rfl rfl (.s 13 rfl (.s 12 rfl .nil)) (q_int rfl rfl) <| WL.nil <| QN.then_ <| W.seq ?_
  refine W.condP h rfl (fun hb4503 h => ?_) (fun hb4503 h => ?_)
  ·refine W.skip <| QN.then_ <| W.seq <| W.block <| W.seq <| W.region <| WL.p rfl rfl rfl (.s 13 rfl .nil) (q_move rfl) <| WL.p rfl rfl rfl (.s 15 rfl .nil) (q_assign rfl) <| WL.nil <| QN.then_ <| W.seq <| W.drawK [(0, false), (1, false), (2, false), (3, false), (4, false), (5, false), (6, false), (7, false), (8, false)] [] [[], [], [0, 1], [0, 1, 2], [], [], [4, 5], [4, 5, 6], [0, 1, 2, 3, 4, 5, 6, 7]] mx (by kernel_rfl) <| DK.cons rfl rfl (.p rfl (.s 0 rfl .nil) rfl (q_move rfl)) ?_
   refine DK.cons rfl rfl (.p rfl (.s 5 rfl .nil) rfl (q_move rfl)) ?_
   obtain ⟨c4508, h⟩ := ite_n h
   refine DK.cons rfl rfl (.p rfl (.s 16 rfl (.s 17 rfl .nil)) rfl (q_index rfl el26 rfl c4508.1 c4508.2)) <| DK.cons rfl rfl (.p rfl (.s 18 rfl .nil) rfl (q_load rfl sh3)) <| DK.cons rfl rfl (.p rfl (.s 1 rfl .nil) rfl (q_move rfl)) <| DK.cons rfl rfl (.p rfl (.s 5 rfl .nil) rfl (q_move rfl)) ?_
   obtain ⟨c4509, h⟩ := ite_n h
   refine DK.cons rfl rfl (.p rfl (.s 20 rfl (.s 21 rfl .nil)) rfl (q_index rfl el26 rfl c4509.1 c4509.2)) <| DK.cons rfl rfl (.p rfl (.s 22 rfl .nil) rfl (q_load rfl sh3)) <| DK.cons rfl rfl (.p rfl (.s 19 rfl (.s 23 rfl .nil)) rfl (q_int rfl rfl)) <| DK.nil <| CSteps.nil <| QN.weaken (env' := [(24, _), (13, _), (12, _), (1, _), (0, _)]) (.one rfl (.one rfl (.one rfl (.one rfl (.one rfl (.nil _)))))) <| QN.then_ ?_
   refine W.condP h rfl (fun hb4510 h => ?_) (fun hb4510 h => ?_)
   ·refine W.seq <| W.region <| WL.p rfl rfl rfl (.k .nil) (q_assign rfl) <| WL.nil <| QN.then_ <| W.ret <| QR.block <| QR.then_ <| QR.then_ <| QR.block <| QR.then_ ?_
    cases h
    exact QR.f1 rfl rfl (.t rfl) (.id _)
   ·refine W.skip <| QN.block <| QN.then_ <| W.region ?_
    obtain ⟨c4511, h⟩ := ite_n h
    refine WL.p rfl rfl rfl (.s 13 rfl (.k .nil)) (q_addR rfl c4511) <| WL.p rfl rfl rfl (.s 25 rfl .nil) (q_move rfl) <| WL.nil ?_
    exact next0 () (x13 + 1) _ h (.one rfl (.one rfl (.one rfl (.one rfl (.nil _)))))
  ·refine W.exit <| QX.then_ <| QX.then_ <| QX.here <| QN.then_ <| W.seq <| W.region <| WL.p rfl rfl rfl (.k .nil) (q_assign rfl) <| WL.nil <| QN.then_ <| W.ret ?_
   cases h
   exact QR.f1 rfl rfl (.t rfl) (.id _)
theorem law17_awake.con (k : Nat) (r : Bool) (h : law17_awake k = some r) : Con Tryz.prog 9 [] [] (RA (EqA (.bool r))) := by
 unfold law17_awake at h
 refine Con.of (N := 64) Tryz.func9 rfl rfl rfl fun w0_ fg_ => W.seq <| W.region <| WL.p rfl rfl rfl (.k .nil) (q_assign rfl) <| WL.nil <| QN.then_ <| W.seq <| W.region ?_
 obtain ⟨t4512, ht4512, h⟩ := bind_s h
 refine WL.p rfl rfl rfl .nil (q_call (f := 30) (A := AggA [SlcA kNodeType t4512.fNodes, SlcA kEdgeType t4512.fEdges]) (xs := []) («as» := []) rfl ca30 (ref04_Example.con k  t4512 ht4512) rfl) <| WL.p rfl rfl rfl (.k (.k .nil)) (q_lit (kd := kInt) (ps := [(0, .const (.int .i64 0)), (1, .const (.int .i64 0))]) (xs := [.const (.int .i64 0), .const (.int .i64 0)]) («as» := [EqA (.int .i64 0), EqA (.int .i64 0)]) (ys := [0, 0]) rfl rfl el26 rfl gr3 rfl rfl rfl (.cons (CellsOf.one rfl) (.cons (CellsOf.one rfl) .nil))) <| WL.p rfl rfl rfl (.s 10 rfl .nil) (q_build (is := [0]) (xs := [.tmp 10]) (L := [SlcA kInt [0, 0], EqA (.slice none 0 0)]) rfl rfl z29 pl29 rfl rfl (.cons (CellsOf.one rfl) .nil) rfl) <| WL.w [] rfl (Wanted.plain rfl) rfl rfl .nil (w_alloc rfl z25 (l := [EqA (.slice none 0 0), EqA (.slice none 0 0)]) rfl) ?_
 rintro _ _ ⟨b4513, rfl, rfl⟩
 refine WL.w [] rfl (Wanted.plain rfl) rfl rfl .nil (w_alloc rfl z29 (l := [EqA (.slice none 0 0), EqA (.slice none 0 0)]) rfl) ?_
 rintro _ _ ⟨b4514, rfl, rfl⟩
 refine WL.w0 [1] rfl (Wanted.plain rfl) rfl (.s 1 rfl (.s 9 rfl .nil)) (w_store (L := [SlcA kNodeType t4512.fNodes, SlcA kEdgeType t4512.fEdges]) rfl sh25 (CellsOf.agg _) rfl rfl (leB rfl) rfl) ?_
 rintro _ _ ⟨rfl, rfl⟩
 refine WL.w0 [1] rfl (Wanted.plain rfl) rfl (.s 2 rfl (.s 11 rfl .nil)) (w_store (L := [SlcA kInt [0, 0], EqA (.slice none 0 0)]) rfl sh29 (CellsOf.agg _) rfl rfl (leB rfl) rfl) ?_
 rintro _ _ ⟨rfl, rfl⟩
 refine WL.nil <| QN.to (StTo.still [1] 1 rfl rfl) <| QN.to (StTo.still [0] 2 rfl rfl) <| QN.then_ <| W.seq <| W.drawK [(0, false), (1, false), (2, false), (3, false), (4, false), (5, false), (6, false), (7, false), (8, false)] [] [[], [], [], [0, 1, 2], [0, 1, 2, 3], [0, 1, 2, 3, 4], [0, 1, 2, 3, 4], [0, 1, 2, 3, 4, 5], [0, 1, 2, 3, 4, 5, 6, 7]] mx (by kernel_rfl) <| DK.cons rfl rfl (.p rfl (.s 1 rfl .nil) rfl (q_loadS rfl sh25 (leB rfl) rfl)) <| DK.cons rfl rfl (.p rfl (.s 2 rfl .nil) rfl (q_loadS rfl sh29 (leB rfl) rfl)) ?_
 obtain ⟨t4519, ht4519, h⟩ := bind_s h
 refine DK.cons rfl rfl (.p rfl .nil rfl (q_call (f := 31) (A := AggA [SlcA kInt t4519.fNodes, SlcA kEdge t4519.fEdges]) (xs := []) («as» := []) rfl ca31 (law17_bank.con k  t4519 ht4519) rfl)) ?_
 obtain ⟨t4520, ht4520, h⟩ := bind_s h
 refine DK.cons rfl rfl (.p rfl (.s 13 rfl (.s 14 rfl (.s 15 rfl (.k .nil)))) rfl (q_callI (f := 24) (A := TupA [SlcA kMorphism t4520.1, EqA (.int .i64 t4520.2)]) (xs := [.tmp 13, .tmp 14, .tmp 15, .const (.bool true)]) («as» := [AggA [SlcA kNodeType t4512.fNodes, SlcA kEdgeType t4512.fEdges], AggA [SlcA kInt [0, 0], EqA (.slice none 0 0)], AggA [SlcA kInt t4519.fNodes, SlcA kEdge t4519.fEdges], EqA (.bool true)]) rfl ca24 (search_All.con k t4512 (Graph.mk [0, 0] []) t4519 true t4520 ht4520) rfl (.cons (Imp.id _) (.cons (Imp.agg (.cons (Imp.id _) (.cons (Imp.nil kEdge) .nil))) (.cons (Imp.id _) (.cons (Imp.id _) .nil)))))) <| DK.cons rfl rfl (.p rfl (.s 16 rfl .nil) rfl (q_move rfl)) <| DK.cons rfl rfl (.p rfl (.s 12 rfl .nil) rfl (q_extract rfl rfl)) <| DK.cons rfl rfl (.p rfl (.s 12 rfl .nil) rfl (q_extract rfl rfl)) <| DK.cons rfl rfl (.p rfl (.s 17 rfl .nil) rfl (q_assign rfl)) <| DK.cons rfl rfl (.p rfl (.s 18 rfl .nil) rfl (q_assign rfl)) <| DK.nil <| CSteps.nil <| QN.weaken (env' := [(4, _), (3, _), (2, _), (1, _)]) (.one rfl (.one rfl (.one rfl (.one rfl (.nil _))))) <| QN.then_ <| W.seq <| W.drawK [(0, false), (1, false), (2, false), (3, false), (4, false), (5, false), (6, false), (7, false), (8, false)] [] [[], [], [], [0, 1, 2], [0, 1, 2, 3], [0, 1, 2, 3, 4], [0, 1, 2, 3, 4], [0, 1, 2, 3, 4, 5], [0, 1, 2, 3, 4, 5, 6, 7]] mx (by kernel_rfl) <| DK.cons rfl rfl (.p rfl (.s 1 rfl .nil) rfl (q_loadS rfl sh25 (leB rfl) rfl)) ?_
 refine DK.cons rfl rfl (.p rfl (.s 2 rfl .nil) rfl (q_loadS rfl sh29 (leB rfl) rfl)) ?_
 obtain ⟨t4525, ht4525, h⟩ := bind_s h
 refine DK.cons rfl rfl (.p rfl .nil rfl (q_call (f := 31) (A := AggA [SlcA kInt t4525.fNodes, SlcA kEdge t4525.fEdges]) (xs := []) («as» := []) rfl ca31 (law17_bank.con k  t4525 ht4525) rfl)) ?_
 obtain ⟨t4526, ht4526, h⟩ := bind_s h
 refine DK.cons rfl rfl (.p rfl (.s 20 rfl (.s 21 rfl (.s 22 rfl (.k .nil)))) rfl (q_callI (f := 28) (A := TupA [EqA (.int .i64 t4526.1), EqA (.int .i64 t4526.2)]) (xs := [.tmp 20, .tmp 21, .tmp 22, .const (.bool false)]) («as» := [AggA [SlcA kNodeType t4512.fNodes, SlcA kEdgeType t4512.fEdges], AggA [SlcA kInt [0, 0], EqA (.slice none 0 0)], AggA [SlcA kInt t4525.fNodes, SlcA kEdge t4525.fEdges], EqA (.bool false)]) rfl ca28 (search_Count.con k t4512 (Graph.mk [0, 0] []) t4525 false t4526 ht4526) rfl (.cons (Imp.id _) (.cons (Imp.agg (.cons (Imp.id _) (.cons (Imp.nil kEdge) .nil))) (.cons (Imp.id _) (.cons (Imp.id _) .nil)))))) <| DK.cons rfl rfl (.p rfl (.s 23 rfl .nil) rfl (q_move rfl)) <| DK.cons rfl rfl (.p rfl (.s 19 rfl .nil) rfl (q_extract rfl rfl)) <| DK.cons rfl rfl (.p rfl (.s 19 rfl .nil) rfl (q_extract rfl rfl)) <| DK.cons rfl rfl (.p rfl (.s 24 rfl .nil) rfl (q_assign rfl)) <| DK.cons rfl rfl (.p rfl (.s 25 rfl .nil) rfl (q_assign rfl)) <| DK.nil <| CSteps.nil <| QN.weaken (env' := [(6, _), (5, _), (4, _), (3, _), (2, _), (1, _)]) (.one rfl (.one rfl (.one rfl (.one rfl (.one rfl (.one rfl (.nil _))))))) <| QN.then_ <| W.seq <| W.drawK [(0, false), (1, false), (2, false), (3, false), (4, false), (5, false), (6, false), (7, false), (8, false)] [9, 10, 11] [[], [], [], [], [3], [0, 1, 2, 3, 4], [0, 1, 2, 3, 4, 5], [0, 1, 2, 3, 4, 5, 6], [0, 1, 2, 3, 4, 5, 6], [], [0, 1, 2, 3, 4, 5, 6, 7, 9], [0, 1, 2, 3, 4, 5, 6, 7, 8, 9, 10]] mx (by kernel_rfl) <| DK.cons rfl rfl (.p rfl (.s 1 rfl .nil) rfl (q_loadS rfl sh25 (leB rfl) rfl)) ?_
 refine DK.cons rfl rfl (.p rfl (.s 2 rfl .nil) rfl (q_loadS rfl sh29 (leB rfl) rfl)) ?_
 obtain ⟨t4533, ht4533, h⟩ := bind_s h
 refine DK.cons rfl rfl (.p rfl .nil rfl (q_call (f := 31) (A := AggA [SlcA kInt t4533.fNodes, SlcA kEdge t4533.fEdges]) (xs := []) («as» := []) rfl ca31 (law17_bank.con k  t4533 ht4533) rfl)) <| DK.cons rfl rfl (.p rfl (.k (.k .nil)) rfl (q_lit (kd := kInt) (ps := [(0, .const (.int .i64 1)), (1, .const (.int .i64 2))]) (xs := [.const (.int .i64 1), .const (.int .i64 2)]) («as» := [EqA (.int .i64 1), EqA (.int .i64 2)]) (ys := [1, 2]) rfl rfl el26 rfl gr3 rfl rfl rfl (.cons (CellsOf.one rfl) (.cons (CellsOf.one rfl) .nil)))) <| DK.cons rfl rfl (.p rfl (.s 30 rfl .nil) rfl (q_build (is := [0]) (xs := [.tmp 30]) (L := [SlcA kInt [1, 2], EqA (.slice none 0 0)]) rfl rfl z33 pl33 rfl rfl (.cons (CellsOf.one rfl) .nil) rfl)) ?_
 obtain ⟨t4534, ht4534, h⟩ := bind_s h
 refine DK.cons rfl rfl (.p rfl (.s 27 rfl (.s 28 rfl (.s 29 rfl (.s 31 rfl .nil)))) rfl (q_callI (f := 11) (A := TupA [AggA [SlcA kInt t4534.1.fNodes, SlcA kEdge t4534.1.fEdges], EqA (.int .i64 t4534.2)]) (xs := [.tmp 27, .tmp 28, .tmp 29, .tmp 31]) («as» := [AggA [SlcA kNodeType t4512.fNodes, SlcA kEdgeType t4512.fEdges], AggA [SlcA kInt [0, 0], EqA (.slice none 0 0)], AggA [SlcA kInt t4533.fNodes, SlcA kEdge t4533.fEdges], AggA [SlcA kInt [1, 2], EqA (.slice none 0 0)]]) rfl ca11 (search_Instance.con k t4512 (Graph.mk [0, 0] []) t4533 (Morphism.mk [1, 2] []) t4534 ht4534) rfl (.cons (Imp.id _) (.cons (Imp.agg (.cons (Imp.id _) (.cons (Imp.nil kEdge) .nil))) (.cons (Imp.id _) (.cons (Imp.agg (.cons (Imp.id _) (.cons (Imp.nil kInt) .nil))) .nil)))))) <| DK.cons rfl rfl (.p rfl (.s 32 rfl .nil) rfl (q_move rfl)) <| DK.cons rfl rfl (.p rfl (.s 26 rfl .nil) rfl (q_extract rfl rfl)) <| DK.cons rfl rfl (.p rfl (.s 26 rfl .nil) rfl (q_extract rfl rfl)) <| DK.nil <| CSteps.w [] rfl rfl rfl rfl .nil rfl (w_alloc rfl z29 (l := [EqA (.slice none 0 0), EqA (.slice none 0 0)]) rfl) ?_
 rintro _ _ ⟨b4535, rfl, rfl⟩
 refine CSteps.w0 [0] rfl rfl rfl (.s 7 rfl (.s 33 rfl .nil)) rfl (w_store (L := [SlcA kInt t4534.1.fNodes, SlcA kEdge t4534.1.fEdges]) rfl sh29 (CellsOf.agg _) rfl rfl (leB rfl) rfl) ?_
 rintro _ _ ⟨rfl, rfl⟩
 refine CSteps.p rfl rfl rfl (.s 34 rfl .nil) rfl (q_assign rfl) <| CSteps.nil <| QN.to (StTo.still [0] 7 rfl rfl) <| QN.weaken (env' := [(8, _), (7, _), (6, _), (5, _), (4, _), (3, _)]) (.one rfl (.one rfl (.one rfl (.one rfl (.one rfl (.one rfl (.nil _))))))) <| QN.then_ <| W.seq ?_
 refine W.jn1 (Γ := Unit) (fun (_ : Unit) (x0 : Bool) => [(0, EqA (.bool x0))]) (fun (_ : Unit) (_ : Bool) => []) h (fun _ x0 h => ?_) (fun j4544 Kj4544 h => ?_)
 ·refine QN.then_ <| W.ret ?_
  cases h
  exact QR.f1 rfl rfl (.t rfl) (.id _)
 ·refine W.region <| WL.p rfl rfl rfl (.s 4 rfl .nil) (q_move rfl) <| WL.p rfl rfl rfl (.s 35 rfl (.k .nil)) (q_int rfl rfl) <| WL.p rfl rfl rfl (.s 36 rfl .nil) (q_move rfl) ?_
  rcases bif_s h with ⟨hb4545, h⟩ | ⟨hb4545, h⟩
  ·refine WL.q (Wanted.on rfl rfl rfl hb4545) rfl rfl (.s 3 rfl .nil) (q_move rfl).o <| WL.q (Wanted.on rfl rfl rfl hb4545) rfl rfl (.k (.k .nil)) (q_lit (kd := kInt) (ps := [(0, .const (.int .i64 1)), (1, .const (.int .i64 2))]) (xs := [.const (.int .i64 1), .const (.int .i64 2)]) («as» := [EqA (.int .i64 1), EqA (.int .i64 2)]) (ys := [1, 2]) rfl rfl el26 rfl gr3 rfl rfl rfl (.cons (CellsOf.one rfl) (.cons (CellsOf.one rfl) .nil))).o <| WL.q (Wanted.on rfl rfl rfl hb4545) rfl rfl (.s 39 rfl .nil) (q_build (is := [0]) (xs := [.tmp 39]) (L := [SlcA kInt [1, 2], EqA (.slice none 0 0)]) rfl rfl z33 pl33 rfl rfl (.cons (CellsOf.one rfl) .nil) rfl).o <| WL.q (Wanted.on rfl rfl rfl hb4545) rfl rfl (.k (.k .nil)) (q_lit (kd := kInt) (ps := [(0, .const (.int .i64 2)), (1, .const (.int .i64 1))]) (xs := [.const (.int .i64 2), .const (.int .i64 1)]) («as» := [EqA (.int .i64 2), EqA (.int .i64 1)]) (ys := [2, 1]) rfl rfl el26 rfl gr3 rfl rfl rfl (.cons (CellsOf.one rfl) (.cons (CellsOf.one rfl) .nil))).o <| WL.q (Wanted.on rfl rfl rfl hb4545) rfl rfl (.s 41 rfl .nil) (q_build (is := [0]) (xs := [.tmp 41]) (L := [SlcA kInt [2, 1], EqA (.slice none 0 0)]) rfl rfl z33 pl33 rfl rfl (.cons (CellsOf.one rfl) .nil) rfl).o <| WL.q (Wanted.on rfl rfl rfl hb4545) rfl rfl (.s 40 rfl (.s 42 rfl .nil)) (QS.args (q_lit (kd := kMorphism) (ps := [(0, .tmp 40), (1, .tmp 42)]) (xs := [.tmp 40, .tmp 42]) («as» := [AggA [SlcA kInt [1, 2], SlcA kInt []], AggA [SlcA kInt [2, 1], SlcA kInt []]]) (ys := [(Morphism.mk [1, 2] []), (Morphism.mk [2, 1] [])]) rfl rfl el46 rfl gr33 rfl rfl rfl (.cons (CellsOf.agg _) (.cons (CellsOf.agg _) .nil))) (.cons (Imp.agg (.cons (Imp.id _) (.cons (Imp.nil kInt) .nil))) (.cons (Imp.agg (.cons (Imp.id _) (.cons (Imp.nil kInt) .nil))) .nil))).o ?_
   obtain ⟨t4546, ht4546, h⟩ := bind_s h
   refine WL.q (Wanted.on rfl rfl rfl hb4545) rfl rfl (.s 38 rfl (.s 43 rfl .nil)) (q_call (f := 20) (A := EqA (.bool t4546)) (xs := [.tmp 38, .tmp 43]) («as» := [SlcA kMorphism t4520.1, SlcA kMorphism ([(Morphism.mk [1, 2] []), (Morphism.mk [2, 1] [])])]) rfl ca20 (ref17_SameAll.con k t4520.1 ([(Morphism.mk [1, 2] []), (Morphism.mk [2, 1] [])]) t4546 ht4546) rfl).o <| WL.p rfl rfl rfl (.s 37 rfl (.s 44 rfl .nil)) (q_pickT rfl hb4545) <| WL.p rfl rfl rfl (.s 45 rfl .nil) (q_move rfl) ?_
   rcases bif_s h with ⟨hb4547, h⟩ | ⟨hb4547, h⟩
   ·refine WL.q (Wanted.on rfl rfl rfl hb4547) rfl rfl (.s 6 rfl .nil) (q_move rfl).o <| WL.q (Wanted.on rfl rfl rfl hb4547) rfl rfl (.s 47 rfl (.k .nil)) (q_int rfl rfl).o <| WL.p rfl rfl rfl (.s 46 rfl (.s 48 rfl .nil)) (q_pickT rfl hb4547) <| WL.p rfl rfl rfl (.s 49 rfl .nil) (q_move rfl) ?_
    rcases bif_s h with ⟨hb4548, h⟩ | ⟨hb4548, h⟩
    ·refine WL.q (Wanted.on rfl rfl rfl hb4548) rfl rfl (.s 5 rfl .nil) (q_move rfl).o <| WL.q (Wanted.on rfl rfl rfl hb4548) rfl rfl (.s 51 rfl (.k .nil)) (q_int rfl rfl).o <| WL.p rfl rfl rfl (.s 50 rfl (.s 52 rfl .nil)) (q_pickT rfl hb4548) <| WL.p rfl rfl rfl (.s 53 rfl .nil) (q_move rfl) ?_
     rcases bif_s h with ⟨hb4549, h⟩ | ⟨hb4549, h⟩
     ·refine WL.q (Wanted.on rfl rfl rfl hb4549) rfl rfl (.s 8 rfl .nil) (q_move rfl).o <| WL.q (Wanted.on rfl rfl rfl hb4549) rfl rfl (.s 55 rfl (.k .nil)) (q_int rfl rfl).o <| WL.p rfl rfl rfl (.s 54 rfl (.s 56 rfl .nil)) (q_pickT rfl hb4549) <| WL.p rfl rfl rfl (.s 57 rfl .nil) (q_move rfl) ?_
      rcases bif_s h with ⟨hb4550, h⟩ | ⟨hb4550, h⟩
      ·refine WL.q (Wanted.on rfl rfl rfl hb4550) rfl rfl (.s 7 rfl .nil) (q_field rfl fo29_0 rfl).o <| WL.q (Wanted.on rfl rfl rfl hb4550) rfl rfl (.s 59 rfl .nil) (q_load rfl sh26).o <| WL.q (Wanted.on rfl rfl rfl hb4550) rfl rfl (.k (.k .nil)) (q_lit (kd := kInt) (ps := [(0, .const (.int .i64 1)), (1, .const (.int .i64 1))]) (xs := [.const (.int .i64 1), .const (.int .i64 1)]) («as» := [EqA (.int .i64 1), EqA (.int .i64 1)]) (ys := [1, 1]) rfl rfl el26 rfl gr3 rfl rfl rfl (.cons (CellsOf.one rfl) (.cons (CellsOf.one rfl) .nil))).o ?_
       obtain ⟨t4551, ht4551, h⟩ := bind_s h
       refine WL.q (Wanted.on rfl rfl rfl hb4550) rfl rfl (.s 60 rfl (.s 61 rfl .nil)) (q_call (f := 32) (A := EqA (.bool t4551)) (xs := [.tmp 60, .tmp 61]) («as» := [SlcA kInt t4534.1.fNodes, SlcA kInt [1, 1]]) rfl ca32 (slices_Equal_int.con k t4534.1.fNodes [1, 1] t4551 ht4551) rfl).o <| WL.p rfl rfl rfl (.s 58 rfl (.s 62 rfl .nil)) (q_pickT rfl hb4550) <| WL.p rfl rfl rfl (.s 63 rfl .nil) (q_assign rfl) <| WL.nil ?_
       exact QN.weaken (.one rfl (.nil _)) (Kj4544 () t4551 h)
      ·refine WL.skip (Unwanted.on rfl rfl rfl hb4550) rfl rfl <| WL.skip (Unwanted.on rfl rfl rfl hb4550) rfl rfl <| WL.skip (Unwanted.on rfl rfl rfl hb4550) rfl rfl <| WL.skip (Unwanted.on rfl rfl rfl hb4550) rfl rfl <| WL.p rfl rfl rfl (.s 58 rfl (.k .nil)) (q_pickF rfl hb4550) <| WL.p rfl rfl rfl (.s 63 rfl .nil) (q_assign rfl) <| WL.nil ?_
       exact QN.weaken (.one rfl (.nil _)) (Kj4544 () false h)
     ·refine WL.skip (Unwanted.on rfl rfl rfl hb4549) rfl rfl <| WL.skip (Unwanted.on rfl rfl rfl hb4549) rfl rfl <| WL.p rfl rfl rfl (.s 54 rfl (.k .nil)) (q_pickF rfl hb4549) <| WL.p rfl rfl rfl (.s 57 rfl .nil) (q_move rfl) <| WL.skip (Unwanted.on rfl rfl rfl rfl) rfl rfl <| WL.skip (Unwanted.on rfl rfl rfl rfl) rfl rfl <| WL.skip (Unwanted.on rfl rfl rfl rfl) rfl rfl <| WL.skip (Unwanted.on rfl rfl rfl rfl) rfl rfl <| WL.p rfl rfl rfl (.s 58 rfl (.k .nil)) (q_pickF rfl rfl) <| WL.p rfl rfl rfl (.s 63 rfl .nil) (q_assign rfl) <| WL.nil ?_
      exact QN.weaken (.one rfl (.nil _)) (Kj4544 () false h)
    ·refine WL.skip (Unwanted.on rfl rfl rfl hb4548) rfl rfl <| WL.skip (Unwanted.on rfl rfl rfl hb4548) rfl rfl <| WL.p rfl rfl rfl (.s 50 rfl (.k .nil)) (q_pickF rfl hb4548) <| WL.p rfl rfl rfl (.s 53 rfl .nil) (q_move rfl) <| WL.skip (Unwanted.on rfl rfl rfl rfl) rfl rfl <| WL.skip (Unwanted.on rfl rfl rfl rfl) rfl rfl <| WL.p rfl rfl rfl (.s 54 rfl (.k .nil)) (q_pickF rfl rfl) <| WL.p rfl rfl rfl (.s 57 rfl .nil) (q_move rfl) <| WL.skip (Unwanted.on rfl rfl rfl rfl) rfl rfl <| WL.skip (Unwanted.on rfl rfl rfl rfl) rfl rfl <| WL.skip (Unwanted.on rfl rfl rfl rfl) rfl rfl <| WL.skip (Unwanted.on rfl rfl rfl rfl) rfl rfl <| WL.p rfl rfl rfl (.s 58 rfl (.k .nil)) (q_pickF rfl rfl) ?_
     refine WL.p rfl rfl rfl (.s 63 rfl .nil) (q_assign rfl) <| WL.nil ?_
     exact QN.weaken (.one rfl (.nil _)) (Kj4544 () false h)
   ·refine WL.skip (Unwanted.on rfl rfl rfl hb4547) rfl rfl <| WL.skip (Unwanted.on rfl rfl rfl hb4547) rfl rfl <| WL.p rfl rfl rfl (.s 46 rfl (.k .nil)) (q_pickF rfl hb4547) <| WL.p rfl rfl rfl (.s 49 rfl .nil) (q_move rfl) <| WL.skip (Unwanted.on rfl rfl rfl rfl) rfl rfl <| WL.skip (Unwanted.on rfl rfl rfl rfl) rfl rfl <| WL.p rfl rfl rfl (.s 50 rfl (.k .nil)) (q_pickF rfl rfl) <| WL.p rfl rfl rfl (.s 53 rfl .nil) (q_move rfl) <| WL.skip (Unwanted.on rfl rfl rfl rfl) rfl rfl <| WL.skip (Unwanted.on rfl rfl rfl rfl) rfl rfl <| WL.p rfl rfl rfl (.s 54 rfl (.k .nil)) (q_pickF rfl rfl) <| WL.p rfl rfl rfl (.s 57 rfl .nil) (q_move rfl) <| WL.skip (Unwanted.on rfl rfl rfl rfl) rfl rfl ?_
    refine WL.skip (Unwanted.on rfl rfl rfl rfl) rfl rfl <| WL.skip (Unwanted.on rfl rfl rfl rfl) rfl rfl <| WL.skip (Unwanted.on rfl rfl rfl rfl) rfl rfl <| WL.p rfl rfl rfl (.s 58 rfl (.k .nil)) (q_pickF rfl rfl) <| WL.p rfl rfl rfl (.s 63 rfl .nil) (q_assign rfl) <| WL.nil ?_
    exact QN.weaken (.one rfl (.nil _)) (Kj4544 () false h)
  ·refine WL.skip (Unwanted.on rfl rfl rfl hb4545) rfl rfl <| WL.skip (Unwanted.on rfl rfl rfl hb4545) rfl rfl <| WL.skip (Unwanted.on rfl rfl rfl hb4545) rfl rfl <| WL.skip (Unwanted.on rfl rfl rfl hb4545) rfl rfl <| WL.skip (Unwanted.on rfl rfl rfl hb4545) rfl rfl <| WL.skip (Unwanted.on rfl rfl rfl hb4545) rfl rfl <| WL.skip (Unwanted.on rfl rfl rfl hb4545) rfl rfl <| WL.p rfl rfl rfl (.s 37 rfl (.k .nil)) (q_pickF rfl hb4545) <| WL.p rfl rfl rfl (.s 45 rfl .nil) (q_move rfl) <| WL.skip (Unwanted.on rfl rfl rfl rfl) rfl rfl <| WL.skip (Unwanted.on rfl rfl rfl rfl) rfl rfl <| WL.p rfl rfl rfl (.s 46 rfl (.k .nil)) (q_pickF rfl rfl) <| WL.p rfl rfl rfl (.s 49 rfl .nil) (q_move rfl) ?_
   refine WL.skip (Unwanted.on rfl rfl rfl rfl) rfl rfl <| WL.skip (Unwanted.on rfl rfl rfl rfl) rfl rfl <| WL.p rfl rfl rfl (.s 50 rfl (.k .nil)) (q_pickF rfl rfl) <| WL.p rfl rfl rfl (.s 53 rfl .nil) (q_move rfl) <| WL.skip (Unwanted.on rfl rfl rfl rfl) rfl rfl <| WL.skip (Unwanted.on rfl rfl rfl rfl) rfl rfl <| WL.p rfl rfl rfl (.s 54 rfl (.k .nil)) (q_pickF rfl rfl) <| WL.p rfl rfl rfl (.s 57 rfl .nil) (q_move rfl) <| WL.skip (Unwanted.on rfl rfl rfl rfl) rfl rfl <| WL.skip (Unwanted.on rfl rfl rfl rfl) rfl rfl <| WL.skip (Unwanted.on rfl rfl rfl rfl) rfl rfl <| WL.skip (Unwanted.on rfl rfl rfl rfl) rfl rfl <| WL.p rfl rfl rfl (.s 58 rfl (.k .nil)) (q_pickF rfl rfl) ?_
   refine WL.p rfl rfl rfl (.s 63 rfl .nil) (q_assign rfl) <| WL.nil ?_
   exact QN.weaken (.one rfl (.nil _)) (Kj4544 () false h)
theorem ref04_Few.con (k : Nat) (a0 : Types) (r : Bool) (h : ref04_Few k a0 = some r) : Con Tryz.prog 33 [] [AggA [SlcA kNodeType a0.fNodes, SlcA kEdgeType a0.fEdges]] (RA (EqA (.bool r))) := by
 unfold ref04_Few at h
 refine Con.of (N := 106) Tryz.func33 rfl rfl rfl fun w0_ fg_ => W.seq <| W.region <| WL.p rfl rfl rfl (.s 0 rfl .nil) (q_box rfl (CellsOf.agg _)) <| WL.p rfl rfl rfl (.k .nil) (q_assign rfl) <| WL.nil <| QN.then_ <| W.seq <| W.seq ?_
 refine W.jn1 (Γ := Unit) (fun (_ : Unit) (x18 : Bool) => [(1, PtrA [SlcA kNodeType a0.fNodes, SlcA kEdgeType a0.fEdges]), (18, EqA (.bool x18))]) (fun (_ : Unit) (_ : Bool) => []) h (fun _ x18 h => ?_) (fun j4554 Kj4554 h => ?_)
 ·refine QN.then_ ?_
  refine W.condP h rfl (fun hb4555 h => ?_) (fun hb4555 h => ?_)
  ·refine W.seq <| W.region <| WL.p rfl rfl rfl (.k .nil) (q_assign rfl) <| WL.nil <| QN.then_ <| W.ret <| QR.then_ ?_
   cases h
   exact QR.f1 rfl rfl (.t rfl) (.id _)
  ·refine W.skip <| QN.then_ <| W.seq <| W.region <| WL.p rfl rfl rfl (.k .nil) (q_assign rfl) <| WL.nil <| QN.then_ <| W.seq <| W.seq <| W.region <| WL.p rfl rfl rfl (.k .nil) (q_assign rfl) <| WL.nil <| QN.then_ ?_
   refine W.block ?_
   refine W.loop2 (Γ := Unit) (fun (_ : Unit) (x3 : Int) (x4 : Int) => [(1, PtrA [SlcA kNodeType a0.fNodes, SlcA kEdgeType a0.fEdges]), (3, EqA (.int .i64 x3)), (4, EqA (.int .i64 x4))]) (fun (_ : Unit) (_ : Int) (_ : Int) => []) h () (.one rfl (.one rfl (.one rfl (.nil _)))) rfl (fun rec0 K0 next0 _ x3 x4 h => ?_)
   unfold ref04_Few.b0 at h
   refine W.seq <| W.seq <| W.region <| WL.p rfl rfl rfl (.s 4 rfl .nil) (q_move rfl) <| WL.p rfl rfl rfl (.s 1 rfl .nil) (q_field rfl fo25_0 rfl) <| WL.p rfl rfl rfl (.s 20 rfl .nil) (q_load rfl sh22) <| WL.p rfl rfl rfl (.s 21 rfl .nil) (q_len rfl elS22) <| WL.p rfl rfl rfl (.s 19 rfl (.s 22 rfl .nil)) (q_int rfl rfl) <| WL.nil <| QN.then_ ?_
   refine W.condP h rfl (fun hb4756 h => ?_) (fun hb4756 h => ?_)
   ·refine W.skip <| QN.then_ <| W.seq <| W.block <| W.seq <| W.region <| WL.p rfl rfl rfl (.s 3 rfl .nil) (q_move rfl) <| WL.p rfl rfl rfl (.s 1 rfl .nil) (q_field rfl fo25_0 rfl) <| WL.p rfl rfl rfl (.s 27 rfl .nil) (q_load rfl sh22) <| WL.p rfl rfl rfl (.s 4 rfl .nil) (q_move rfl) ?_
    obtain ⟨c4757, h⟩ := ite_n h
    refine WL.p rfl rfl rfl (.s 28 rfl (.s 29 rfl .nil)) (q_index rfl el22 rfl c4757.1 c4757.2) <| WL.p rfl rfl rfl (.s 30 rfl .nil) (q_field rfl fo94_3 rfl) <| WL.p rfl rfl rfl (.s 31 rfl .nil) (q_load rfl sh92) <| WL.p rfl rfl rfl (.s 32 rfl .nil) (q_len rfl elS92) ?_
    obtain ⟨c4758, h⟩ := ite_n h
    refine WL.p rfl rfl rfl (.s 26 rfl (.s 33 rfl .nil)) (q_addR rfl c4758) <| WL.p rfl rfl rfl (.s 34 rfl .nil) (q_assign rfl) <| WL.nil <| QN.weaken (env' := [(3, _), (4, _), (1, _)]) (.one rfl (.one rfl (.one rfl (.nil _)))) <| QN.then_ <| W.seq <| W.seq ?_
    refine W.jn1 (Γ := Unit) (fun (_ : Unit) (x46 : Bool) => [(1, PtrA [SlcA kNodeType a0.fNodes, SlcA kEdgeType a0.fEdges]), (4, EqA (.int .i64 x4)), (3, EqA (.int .i64 (x3 + (((rd a0.fNodes x4).fAttrs).length : Int)))), (46, EqA (.bool x46))]) (fun (_ : Unit) (_ : Bool) => []) h (fun _ x46 h => ?_) (fun j4762 Kj4762 h => ?_)
    ·refine QN.then_ ?_
     refine W.condP h rfl (fun hb4763 h => ?_) (fun hb4763 h => ?_)
     ·refine W.seq <| W.region <| WL.p rfl rfl rfl (.k .nil) (q_assign rfl) <| WL.nil <| QN.then_ <| W.ret <| QR.then_ <| QR.block <| QR.then_ <| QR.then_ <| QR.block <| QR.then_ ?_
      cases h
      exact QR.f1 rfl rfl (.t rfl) (.id _)
     ·refine W.skip <| QN.then_ <| W.seq <| W.region <| WL.p rfl rfl rfl (.k .nil) (q_assign rfl) <| WL.nil <| QN.then_ <| W.block ?_
      refine W.loop1 (Γ := Unit) (fun (_ : Unit) (x5 : Int) => [(1, PtrA [SlcA kNodeType a0.fNodes, SlcA kEdgeType a0.fEdges]), (4, EqA (.int .i64 x4)), (3, EqA (.int .i64 (x3 + (((rd a0.fNodes x4).fAttrs).length : Int)))), (5, EqA (.int .i64 x5))]) (fun (_ : Unit) (_ : Int) => []) h () (.one rfl (.one rfl (.one rfl (.one rfl (.nil _))))) rfl (fun rec1 K1 next1 _ x5 h => ?_)
      unfold ref04_Few.b1 at h
      refine W.seq <| W.seq <| W.region <| WL.p rfl rfl rfl (.s 5 rfl .nil) (q_move rfl) <| WL.p rfl rfl rfl (.s 1 rfl .nil) (q_field rfl fo25_0 rfl) <| WL.p rfl rfl rfl (.s 48 rfl .nil) (q_load rfl sh22) <| WL.p rfl rfl rfl (.s 4 rfl .nil) (q_move rfl) ?_
      obtain ⟨c4816, h⟩ := ite_n h
      refine WL.p rfl rfl rfl (.s 49 rfl (.s 50 rfl .nil)) (q_index rfl el22 rfl c4816.1 c4816.2) <| WL.p rfl rfl rfl (.s 51 rfl .nil) (q_field rfl fo94_3 rfl) <| WL.p rfl rfl rfl (.s 52 rfl .nil) (q_load rfl sh92) <| WL.p rfl rfl rfl (.s 53 rfl .nil) (q_len rfl elS92) <| WL.p rfl rfl rfl (.s 47 rfl (.s 54 rfl .nil)) (q_int rfl rfl) <| WL.nil <| QN.weaken (env' := [(55, _), (5, _), (3, _), (4, _), (1, _)]) (.one rfl (.one rfl (.one rfl (.one rfl (.one rfl (.nil _)))))) <| QN.then_ ?_
      refine W.condP h rfl (fun hb4817 h => ?_) (fun hb4817 h => ?_)
      ·refine W.skip <| QN.then_ <| W.seq <| W.block <| W.seq <| W.region <| WL.p rfl rfl rfl (.s 1 rfl .nil) (q_field rfl fo25_0 rfl) <| WL.p rfl rfl rfl (.s 58 rfl .nil) (q_load rfl sh22) <| WL.p rfl rfl rfl (.s 4 rfl .nil) (q_move rfl) ?_
       obtain ⟨c4818, h⟩ := ite_n h
       refine WL.p rfl rfl rfl (.s 59 rfl (.s 60 rfl .nil)) (q_index rfl el22 rfl c4818.1 c4818.2) <| WL.p rfl rfl rfl (.s 61 rfl .nil) (q_field rfl fo94_3 rfl) <| WL.p rfl rfl rfl (.s 62 rfl .nil) (q_load rfl sh92) <| WL.p rfl rfl rfl (.s 5 rfl .nil) (q_move rfl) ?_
       obtain ⟨c4819, h⟩ := ite_n h
       refine WL.p rfl rfl rfl (.s 63 rfl (.s 64 rfl .nil)) (q_index rfl el92 rfl c4819.1 c4819.2) <| WL.p rfl rfl rfl (.s 65 rfl .nil) (q_loadS rfl sh91 (leB rfl) rfl) <| WL.w [] rfl (Wanted.plain rfl) rfl rfl .nil (w_alloc rfl z91 (l := [EqA (strV ([] : Str)), EqA (.int .i64 0), EqA (.int .i64 0), EqA (.slice none 0 0)]) rfl) ?_
       rintro _ _ ⟨b4820, rfl, rfl⟩
       refine WL.w0 [0] rfl (Wanted.plain rfl) rfl (.s 6 rfl (.s 66 rfl .nil)) (w_store (L := [EqA (strV ((rd ((rd a0.fNodes x4).fAttrs) x5).fName)), EqA (.int .i64 ((rd ((rd a0.fNodes x4).fAttrs) x5).fLow)), EqA (.int .i64 ((rd ((rd a0.fNodes x4).fAttrs) x5).fHigh)), SlcA kStr ((rd ((rd a0.fNodes x4).fAttrs) x5).fNames)]) rfl sh91 (CellsOf.agg _) rfl rfl (leB rfl) rfl) ?_
       rintro _ _ ⟨rfl, rfl⟩
       refine WL.nil <| QN.to (StTo.still [0] 6 rfl rfl) <| QN.weaken (env' := [(6, _), (5, _), (3, _), (4, _), (1, _)]) (.one rfl (.one rfl (.one rfl (.one rfl (.one rfl (.nil _)))))) <| QN.then_ <| W.seq <| W.seq ?_
       refine W.jn1 (Γ := Unit) (fun (_ : Unit) (x76 : Bool) => [(1, PtrA [SlcA kNodeType a0.fNodes, SlcA kEdgeType a0.fEdges]), (4, EqA (.int .i64 x4)), (3, EqA (.int .i64 (x3 + (((rd a0.fNodes x4).fAttrs).length : Int)))), (5, EqA (.int .i64 x5)), (6, PtrA [EqA (strV ((rd ((rd a0.fNodes x4).fAttrs) x5).fName)), EqA (.int .i64 ((rd ((rd a0.fNodes x4).fAttrs) x5).fLow)), EqA (.int .i64 ((rd ((rd a0.fNodes x4).fAttrs) x5).fHigh)), SlcA kStr ((rd ((rd a0.fNodes x4).fAttrs) x5).fNames)]), (76, EqA (.bool x76))]) (fun (_ : Unit) (_ : Bool) => []) h (fun _ x76 h => ?_) (fun j4823 Kj4823 h => ?_)
       ·refine QN.then_ ?_
        refine W.condP h rfl (fun hb4824 h => ?_) (fun hb4824 h => ?_)
        ·refine W.seq <| W.region <| WL.p rfl rfl rfl (.k .nil) (q_assign rfl) <| WL.nil <| QN.then_ <| W.ret <| QR.then_ <| QR.block <| QR.then_ <| QR.then_ <| QR.block <| QR.block <| QR.then_ ?_
         refine QR.then_ <| QR.block <| QR.then_ ?_
         cases h
         exact QR.f1 rfl rfl (.t rfl) (.id _)
        ·refine W.skip <| QN.then_ <| W.seq <| W.region <| WL.p rfl rfl rfl (.k .nil) (q_assign rfl) <| WL.nil <| QN.then_ <| W.block ?_
         refine W.loop1 (Γ := Unit) (fun (_ : Unit) (x7 : Int) => [(1, PtrA [SlcA kNodeType a0.fNodes, SlcA kEdgeType a0.fEdges]), (4, EqA (.int .i64 x4)), (3, EqA (.int .i64 (x3 + (((rd a0.fNodes x4).fAttrs).length : Int)))), (5, EqA (.int .i64 x5)), (6, PtrA [EqA (strV ((rd ((rd a0.fNodes x4).fAttrs) x5).fName)), EqA (.int .i64 ((rd ((rd a0.fNodes x4).fAttrs) x5).fLow)), EqA (.int .i64 ((rd ((rd a0.fNodes x4).fAttrs) x5).fHigh)), SlcA kStr ((rd ((rd a0.fNodes x4).fAttrs) x5).fNames)]), (7, EqA (.int .i64 x7))]) (fun (_ : Unit) (_ : Int) => []) h () (.one rfl (.one rfl (.one rfl (.one rfl (.one rfl (.one rfl (.nil _))))))) rfl (fun rec2 K2 next2 _ x7 h => ?_)
         unfold ref04_Few.b2 at h
         refine W.seq <| W.seq <| W.region <| WL.p rfl rfl rfl (.s 7 rfl .nil) (q_move rfl) <| WL.p rfl rfl rfl (.s 6 rfl .nil) (q_field rfl fo91_3 rfl) <| WL.p rfl rfl rfl (.s 78 rfl .nil) (q_load rfl sh89) <| WL.p rfl rfl rfl (.s 79 rfl .nil) (q_len rfl elS89) <| WL.p rfl rfl rfl (.s 77 rfl (.s 80 rfl .nil)) (q_int rfl rfl) <| WL.nil <| QN.then_ ?_
         refine W.condP h rfl (fun hb4835 h => ?_) (fun hb4835 h => ?_)
         ·refine W.skip <| QN.then_ <| W.seq <| W.block <| W.seq <| W.region <| WL.p rfl rfl rfl (.s 6 rfl .nil) (q_field rfl fo91_3 rfl) <| WL.p rfl rfl rfl (.s 84 rfl .nil) (q_load rfl sh89) <| WL.p rfl rfl rfl (.s 7 rfl .nil) (q_move rfl) ?_
          obtain ⟨c4836, h⟩ := ite_n h
          refine WL.p rfl rfl rfl (.s 85 rfl (.s 86 rfl .nil)) (q_index rfl el89 rfl c4836.1 c4836.2) <| WL.p rfl rfl rfl (.s 87 rfl .nil) (q_load rfl sh9) <| WL.p rfl rfl rfl (.s 88 rfl .nil) (q_slen (s := (rd ((rd ((rd a0.fNodes x4).fAttrs) x5).fNames) x7)) rfl iss9) <| WL.p rfl rfl rfl (.s 89 rfl (.k .nil)) (q_int rfl rfl) <| WL.nil <| QN.weaken (env' := [(90, _), (7, _), (6, _), (5, _), (3, _), (4, _), (1, _)]) (.one rfl (.one rfl (.one rfl (.one rfl (.one rfl (.one rfl (.one rfl (.nil _)))))))) <| QN.then_ ?_
          refine W.condP h rfl (fun hb4837 h => ?_) (fun hb4837 h => ?_)
          ·refine W.seq <| W.region <| WL.p rfl rfl rfl (.k .nil) (q_assign rfl) <| WL.nil <| QN.weaken (env' := [(2, _)]) (.one rfl (.nil _)) <| QN.then_ <| W.ret <| QR.block <| QR.then_ <| QR.then_ <| QR.block <| QR.block <| QR.then_ ?_
           refine QR.then_ <| QR.block <| QR.block <| QR.then_ <| QR.then_ <| QR.block <| QR.then_ ?_
           cases h
           exact QR.f1 rfl rfl (.t rfl) (.id _)
          ·refine W.skip <| QN.block <| QN.then_ <| W.region <| WL.p rfl rfl rfl (.s 7 rfl .nil) (q_move rfl) ?_
           obtain ⟨c4838, h⟩ := ite_n h
           refine WL.p rfl rfl rfl (.s 82 rfl (.k .nil)) (q_addR rfl c4838) <| WL.p rfl rfl rfl (.s 83 rfl .nil) (q_assign rfl) <| WL.nil ?_
           exact next2 () (x7 + 1) _ h (.one rfl (.one rfl (.one rfl (.one rfl (.one rfl (.one rfl (.nil _)))))))
         ·refine W.exit <| QX.then_ <| QX.then_ <| QX.here <| QN.block <| QN.weaken (env' := [(5, _), (3, _), (4, _), (1, _)]) (.one rfl (.one rfl (.one rfl (.one rfl (.nil _))))) <| QN.then_ <| W.region <| WL.p rfl rfl rfl (.s 5 rfl .nil) (q_move rfl) ?_
          obtain ⟨c4839, h⟩ := ite_n h
          refine WL.p rfl rfl rfl (.s 56 rfl (.k .nil)) (q_addR rfl c4839) <| WL.p rfl rfl rfl (.s 57 rfl .nil) (q_assign rfl) <| WL.nil ?_
          exact next1 () (x5 + 1) _ h (.one rfl (.one rfl (.one rfl (.one rfl (.nil _)))))
       ·refine W.region <| WL.p rfl rfl rfl (.s 6 rfl .nil) (q_field rfl fo91_0 rfl) <| WL.p rfl rfl rfl (.s 67 rfl .nil) (q_load rfl sh9) <| WL.p rfl rfl rfl (.s 68 rfl .nil) (q_slen (s := (rd ((rd a0.fNodes x4).fAttrs) x5).fName) rfl iss9) <| WL.p rfl rfl rfl (.s 69 rfl (.k .nil)) (q_int rfl rfl) <| WL.p rfl rfl rfl (.s 70 rfl .nil) (q_move rfl) ?_
        rcases bif_s h with ⟨hb4840, h⟩ | ⟨hb4840, h⟩
        ·refine WL.skip (Unwanted.on rfl rfl rfl hb4840) rfl rfl <| WL.skip (Unwanted.on rfl rfl rfl hb4840) rfl rfl <| WL.skip (Unwanted.on rfl rfl rfl hb4840) rfl rfl <| WL.skip (Unwanted.on rfl rfl rfl hb4840) rfl rfl <| WL.p rfl rfl rfl (.s 71 rfl (.k .nil)) (q_pickT rfl hb4840) <| WL.nil ?_
         exact QN.weaken (.one rfl (.one rfl (.one rfl (.one rfl (.one rfl (.one rfl (.nil _))))))) (Kj4823 () true h)
        ·refine WL.q (Wanted.on rfl rfl rfl hb4840) rfl rfl (.s 6 rfl .nil) (q_field rfl fo91_3 rfl).o <| WL.q (Wanted.on rfl rfl rfl hb4840) rfl rfl (.s 72 rfl .nil) (q_load rfl sh89).o <| WL.q (Wanted.on rfl rfl rfl hb4840) rfl rfl (.s 73 rfl .nil) (q_len rfl elS89).o <| WL.q (Wanted.on rfl rfl rfl hb4840) rfl rfl (.s 74 rfl (.k .nil)) (q_int rfl rfl).o <| WL.p rfl rfl rfl (.s 71 rfl (.s 75 rfl .nil)) (q_pickF rfl hb4840) <| WL.nil ?_
         exact QN.weaken (.one rfl (.one rfl (.one rfl (.one rfl (.one rfl (.one rfl (.nil _))))))) (Kj4823 () (decide ((((rd ((rd a0.fNodes x4).fAttrs) x5).fNames).length : Int) > 25)) h)
      ·refine W.exit <| QX.then_ <| QX.then_ <| QX.here <| QN.block <| QN.then_ <| W.region <| WL.p rfl rfl rfl (.s 4 rfl .nil) (q_move rfl) ?_
       obtain ⟨c4841, h⟩ := ite_n h
       refine WL.p rfl rfl rfl (.s 24 rfl (.k .nil)) (q_addR rfl c4841) <| WL.p rfl rfl rfl (.s 25 rfl .nil) (q_assign rfl) <| WL.nil ?_
       exact next0 () (x3 + (((rd a0.fNodes x4).fAttrs).length : Int)) (x4 + 1) _ h (.one rfl (.one rfl (.one rfl (.nil _))))
    ·refine W.region <| WL.p rfl rfl rfl (.s 3 rfl .nil) (q_move rfl) <| WL.p rfl rfl rfl (.s 35 rfl (.k .nil)) (q_int rfl rfl) <| WL.p rfl rfl rfl (.s 36 rfl .nil) (q_move rfl) ?_
     rcases bif_s h with ⟨hb4842, h⟩ | ⟨hb4842, h⟩
     ·refine WL.skip (Unwanted.on rfl rfl rfl hb4842) rfl rfl <| WL.skip (Unwanted.on rfl rfl rfl hb4842) rfl rfl <| WL.skip (Unwanted.on rfl rfl rfl hb4842) rfl rfl <| WL.skip (Unwanted.on rfl rfl rfl hb4842) rfl rfl <| WL.skip (Unwanted.on rfl rfl rfl hb4842) rfl rfl <| WL.skip (Unwanted.on rfl rfl rfl hb4842) rfl rfl <| WL.skip (Unwanted.on rfl rfl rfl hb4842) rfl rfl <| WL.skip (Unwanted.on rfl rfl rfl hb4842) rfl rfl <| WL.p rfl rfl rfl (.s 37 rfl (.k .nil)) (q_pickT rfl hb4842) <| WL.nil ?_
      exact QN.weaken (.one rfl (.one rfl (.one rfl (.one rfl (.nil _))))) (Kj4762 () true h)
     ·refine WL.q (Wanted.on rfl rfl rfl hb4842) rfl rfl (.s 1 rfl .nil) (q_field rfl fo25_0 rfl).o <| WL.q (Wanted.on rfl rfl rfl hb4842) rfl rfl (.s 38 rfl .nil) (q_load rfl sh22).o <| WL.q (Wanted.on rfl rfl rfl hb4842) rfl rfl (.s 4 rfl .nil) (q_move rfl).o ?_
      obtain ⟨c4843, h⟩ := ite_n h
      refine WL.q (Wanted.on rfl rfl rfl hb4842) rfl rfl (.s 39 rfl (.s 40 rfl .nil)) (q_index rfl el22 rfl c4843.1 c4843.2).o <| WL.q (Wanted.on rfl rfl rfl hb4842) rfl rfl (.s 41 rfl .nil) (q_field rfl fo94_0 rfl).o <| WL.q (Wanted.on rfl rfl rfl hb4842) rfl rfl (.s 42 rfl .nil) (q_load rfl sh9).o <| WL.q (Wanted.on rfl rfl rfl hb4842) rfl rfl (.s 43 rfl .nil) (q_slen (s := (rd a0.fNodes x4).fName) rfl iss9).o <| WL.q (Wanted.on rfl rfl rfl hb4842) rfl rfl (.s 44 rfl (.k .nil)) (q_int rfl rfl).o <| WL.p rfl rfl rfl (.s 37 rfl (.s 45 rfl .nil)) (q_pickF rfl hb4842) <| WL.nil ?_
      exact QN.weaken (.one rfl (.one rfl (.one rfl (.one rfl (.nil _))))) (Kj4762 () (decide ((((rd a0.fNodes x4).fName).length : Int) > 40)) h)
   ·refine W.exit <| QX.then_ <| QX.then_ <| QX.here <| QN.weaken (env' := [(1, _)]) (.one rfl (.nil _)) <| QN.then_ <| W.seq <| W.seq <| W.region <| WL.p rfl rfl rfl (.k .nil) (q_assign rfl) <| WL.nil <| QN.then_ <| W.block ?_
    refine W.loop1 (Γ := Unit) (fun (_ : Unit) (x8 : Int) => [(1, PtrA [SlcA kNodeType a0.fNodes, SlcA kEdgeType a0.fEdges]), (8, EqA (.int .i64 x8))]) (fun (_ : Unit) (_ : Int) => []) h () (.one rfl (.one rfl (.nil _))) rfl (fun rec3 K3 next3 _ x8 h => ?_)
    unfold ref04_Few.b3 at h
    refine W.seq <| W.seq <| W.region <| WL.p rfl rfl rfl (.s 8 rfl .nil) (q_move rfl) <| WL.p rfl rfl rfl (.s 1 rfl .nil) (q_field rfl fo25_1 rfl) <| WL.p rfl rfl rfl (.s 92 rfl .nil) (q_load rfl sh23) <| WL.p rfl rfl rfl (.s 93 rfl .nil) (q_len rfl elS23) <| WL.p rfl rfl rfl (.s 91 rfl (.s 94 rfl .nil)) (q_int rfl rfl) <| WL.nil <| QN.then_ ?_
    refine W.condP h rfl (fun hb4852 h => ?_) (fun hb4852 h => ?_)
    ·refine W.skip <| QN.then_ <| W.seq <| W.block <| W.seq <| W.region <| WL.p rfl rfl rfl (.s 1 rfl .nil) (q_field rfl fo25_1 rfl) <| WL.p rfl rfl rfl (.s 98 rfl .nil) (q_load rfl sh23) <| WL.p rfl rfl rfl (.s 8 rfl .nil) (q_move rfl) ?_
     obtain ⟨c4853, h⟩ := ite_n h
     refine WL.p rfl rfl rfl (.s 99 rfl (.s 100 rfl .nil)) (q_index rfl el23 rfl c4853.1 c4853.2) <| WL.p rfl rfl rfl (.s 101 rfl .nil) (q_field rfl fo96_0 rfl) <| WL.p rfl rfl rfl (.s 102 rfl .nil) (q_load rfl sh9) <| WL.p rfl rfl rfl (.s 103 rfl .nil) (q_slen (s := (rd a0.fEdges x8).fName) rfl iss9) <| WL.p rfl rfl rfl (.s 104 rfl (.k .nil)) (q_int rfl rfl) <| WL.nil <| QN.weaken (env' := [(105, _), (8, _), (1, _)]) (.one rfl (.one rfl (.one rfl (.nil _)))) <| QN.then_ ?_
     refine W.condP h rfl (fun hb4854 h => ?_) (fun hb4854 h => ?_)
     ·refine W.seq <| W.region <| WL.p rfl rfl rfl (.k .nil) (q_assign rfl) <| WL.nil <| QN.then_ <| W.ret <| QR.block <| QR.then_ <| QR.then_ <| QR.block <| QR.then_ ?_
      cases h
      exact QR.f1 rfl rfl (.t rfl) (.id _)
     ·refine W.skip <| QN.block <| QN.then_ <| W.region <| WL.p rfl rfl rfl (.s 8 rfl .nil) (q_move rfl) ?_
      obtain ⟨c4855, h⟩ := ite_n h
      refine WL.p rfl rfl rfl (.s 96 rfl (.k .nil)) (q_addR rfl c4855) <| WL.p rfl rfl rfl (.s 97 rfl .nil) (q_assign rfl) <| WL.nil ?_
      exact next3 () (x8 + 1) _ h (.one rfl (.one rfl (.nil _)))
    ·refine W.exit <| QX.then_ <| QX.then_ <| QX.here <| QN.weaken (env' := []) (.nil _) <| QN.then_ <| W.seq <| W.region <| WL.p rfl rfl rfl (.k .nil) (q_assign rfl) <| WL.nil <| QN.then_ <| W.ret ?_
     cases h
     exact QR.f1 rfl rfl (.t rfl) (.id _)
 ·refine W.region <| WL.p rfl rfl rfl (.s 1 rfl .nil) (q_field rfl fo25_0 rfl) <| WL.p rfl rfl rfl (.s 9 rfl .nil) (q_load rfl sh22) <| WL.p rfl rfl rfl (.s 10 rfl .nil) (q_len rfl elS22) <| WL.p rfl rfl rfl (.s 11 rfl (.k .nil)) (q_int rfl rfl) <| WL.p rfl rfl rfl (.s 12 rfl .nil) (q_move rfl) ?_
  rcases bif_s h with ⟨hb4856, h⟩ | ⟨hb4856, h⟩
  ·refine WL.skip (Unwanted.on rfl rfl rfl hb4856) rfl rfl <| WL.skip (Unwanted.on rfl rfl rfl hb4856) rfl rfl <| WL.skip (Unwanted.on rfl rfl rfl hb4856) rfl rfl <| WL.skip (Unwanted.on rfl rfl rfl hb4856) rfl rfl <| WL.p rfl rfl rfl (.s 13 rfl (.k .nil)) (q_pickT rfl hb4856) <| WL.nil ?_
   exact QN.weaken (.one rfl (.one rfl (.nil _))) (Kj4554 () true h)
  ·refine WL.q (Wanted.on rfl rfl rfl hb4856) rfl rfl (.s 1 rfl .nil) (q_field rfl fo25_1 rfl).o <| WL.q (Wanted.on rfl rfl rfl hb4856) rfl rfl (.s 14 rfl .nil) (q_load rfl sh23).o <| WL.q (Wanted.on rfl rfl rfl hb4856) rfl rfl (.s 15 rfl .nil) (q_len rfl elS23).o <| WL.q (Wanted.on rfl rfl rfl hb4856) rfl rfl (.s 16 rfl (.k .nil)) (q_int rfl rfl).o <| WL.p rfl rfl rfl (.s 13 rfl (.s 17 rfl .nil)) (q_pickF rfl hb4856) <| WL.nil ?_
   exact QN.weaken (.one rfl (.one rfl (.nil _))) (Kj4554 () (decide ((a0.fEdges.length : Int) > 30)) h)
theorem ref05_Few.con (k : Nat) (a0 : Graph) (r : Bool) (h : ref05_Few k a0 = some r) : Con Tryz.prog 34 [] [AggA [SlcA kInt a0.fNodes, SlcA kEdge a0.fEdges]] (RA (EqA (.bool r))) := by
 unfold ref05_Few at h
 refine Con.of (N := 13) Tryz.func34 rfl rfl rfl fun w0_ fg_ => W.seq <| W.region <| WL.p rfl rfl rfl (.s 0 rfl .nil) (q_box rfl (CellsOf.agg _)) <| WL.p rfl rfl rfl (.k .nil) (q_assign rfl) <| WL.nil <| QN.then_ <| W.seq ?_
 refine W.jn1 (Γ := Unit) (fun (_ : Unit) (x2 : Bool) => [(2, EqA (.bool x2))]) (fun (_ : Unit) (_ : Bool) => []) h (fun _ x2 h => ?_) (fun j4859 Kj4859 h => ?_)
 ·refine QN.then_ <| W.ret ?_
  cases h
  exact QR.f1 rfl rfl (.t rfl) (.id _)
 ·refine W.region <| WL.p rfl rfl rfl (.s 1 rfl .nil) (q_field rfl fo29_0 rfl) <| WL.p rfl rfl rfl (.s 3 rfl .nil) (q_load rfl sh26) <| WL.p rfl rfl rfl (.s 4 rfl .nil) (q_len rfl elS26) <| WL.p rfl rfl rfl (.s 5 rfl (.k .nil)) (q_int rfl rfl) <| WL.p rfl rfl rfl (.s 6 rfl .nil) (q_move rfl) ?_
  rcases bif_s h with ⟨hb4860, h⟩ | ⟨hb4860, h⟩
  ·refine WL.q (Wanted.on rfl rfl rfl hb4860) rfl rfl (.s 1 rfl .nil) (q_field rfl fo29_1 rfl).o <| WL.q (Wanted.on rfl rfl rfl hb4860) rfl rfl (.s 8 rfl .nil) (q_load rfl sh27).o <| WL.q (Wanted.on rfl rfl rfl hb4860) rfl rfl (.s 9 rfl .nil) (q_len rfl elS27).o <| WL.q (Wanted.on rfl rfl rfl hb4860) rfl rfl (.s 10 rfl (.k .nil)) (q_int rfl rfl).o <| WL.p rfl rfl rfl (.s 7 rfl (.s 11 rfl .nil)) (q_pickT rfl hb4860) <| WL.p rfl rfl rfl (.s 12 rfl .nil) (q_assign rfl) <| WL.nil ?_
   exact QN.weaken (.one rfl (.nil _)) (Kj4859 () (decide ((a0.fEdges.length : Int) ≤ 90)) h)
  ·refine WL.skip (Unwanted.on rfl rfl rfl hb4860) rfl rfl <| WL.skip (Unwanted.on rfl rfl rfl hb4860) rfl rfl <| WL.skip (Unwanted.on rfl rfl rfl hb4860) rfl rfl <| WL.skip (Unwanted.on rfl rfl rfl hb4860) rfl rfl <| WL.p rfl rfl rfl (.s 7 rfl (.k .nil)) (q_pickF rfl hb4860) <| WL.p rfl rfl rfl (.s 12 rfl .nil) (q_assign rfl) <| WL.nil ?_
   exact QN.weaken (.one rfl (.nil _)) (Kj4859 () false h)
theorem ref01_text.con (k : Nat) (a0 : Token) (r : Str) (h : ref01_text k a0 = some r) : Con Tryz.prog 140 [] [AggA [EqA (.int .i64 a0.fKind), EqA (strV a0.fText), EqA (.int .i64 a0.fLine)]] (RA (EqA (strV r))) := by
 unfold ref01_text at h
 refine Con.of (N := 12) Tryz.func140 rfl rfl rfl fun w0_ fg_ => W.seq <| W.region <| WL.p rfl rfl rfl (.s 0 rfl .nil) (q_box rfl (CellsOf.agg _)) <| WL.p rfl rfl rfl (.k .nil) (q_assign rfl) <| WL.nil <| QN.then_ <| W.seq <| W.seq <| W.region <| WL.p rfl rfl rfl (.s 1 rfl .nil) (q_field rfl fo150_0 rfl) <| WL.p rfl rfl rfl (.s 3 rfl .nil) (q_load rfl sh3) <| WL.p rfl rfl rfl (.s 4 rfl (.k .nil)) (q_int rfl rfl) ?_
 refine WL.nil <| QN.then_ ?_
 refine W.condP h rfl (fun hb4861 h => ?_) (fun hb4861 h => ?_)
 ·refine W.seq <| W.region <| WL.p rfl rfl rfl (.s 1 rfl .nil) (q_field rfl fo150_1 rfl) <| WL.p rfl rfl rfl (.s 6 rfl .nil) (q_load rfl sh9) ?_
  obtain ⟨c4862, h⟩ := ite_n h
  refine WL.p rfl rfl rfl (.k (.s 7 rfl .nil)) (q_sadd (s := ([34] : Str)) (t := a0.fText) rfl c4862) ?_
  obtain ⟨c4863, h⟩ := ite_n h
  refine WL.p rfl rfl rfl (.s 8 rfl (.k .nil)) (q_sadd (s := (([34] : Str) ++ a0.fText)) (t := ([34] : Str)) rfl c4863) <| WL.p rfl rfl rfl (.s 9 rfl .nil) (q_assign rfl) <| WL.nil <| QN.weaken (env' := [(2, _)]) (.one rfl (.nil _)) <| QN.then_ <| W.ret <| QR.then_ ?_
  cases h
  exact QR.f1 rfl rfl (.t rfl) (.id _)
 ·refine W.skip <| QN.then_ <| W.seq <| W.region <| WL.p rfl rfl rfl (.s 1 rfl .nil) (q_field rfl fo150_1 rfl) <| WL.p rfl rfl rfl (.s 10 rfl .nil) (q_load rfl sh9) <| WL.p rfl rfl rfl (.s 11 rfl .nil) (q_assign rfl) <| WL.nil <| QN.weaken (env' := [(2, _)]) (.one rfl (.nil _)) <| QN.then_ <| W.ret ?_
  cases h
  exact QR.f1 rfl rfl (.t rfl) (.id _)
theorem ref01_letter.con (k : Nat) (a0 : Int) (r : Bool) (h : ref01_letter k a0 = some r) : Con Tryz.prog 151 [] [EqA (.int .u8 a0)] (RA (EqA (.bool r))) := by
 unfold ref01_letter at h
 refine Con.of (N := 17) Tryz.func151 rfl rfl rfl fun w0_ fg_ => W.seq <| W.region <| WL.p rfl rfl rfl (.k .nil) (q_assign rfl) <| WL.nil <| QN.then_ <| W.seq ?_
 refine W.jn1 (Γ := Unit) (fun (_ : Unit) (x2 : Bool) => [(2, EqA (.bool x2))]) (fun (_ : Unit) (_ : Bool) => []) h (fun _ x2 h => ?_) (fun j4869 Kj4869 h => ?_)
 ·refine QN.then_ <| W.ret ?_
  cases h
  exact QR.f1 rfl rfl (.t rfl) (.id _)
 ·refine W.region <| WL.p rfl rfl rfl (.s 0 rfl .nil) (q_move rfl) <| WL.p rfl rfl rfl (.s 3 rfl (.k .nil)) (q_int rfl rfl) <| WL.p rfl rfl rfl (.s 4 rfl .nil) (q_move rfl) ?_
  rcases bif_s h with ⟨hb4870, h⟩ | ⟨hb4870, h⟩
  ·refine WL.q (Wanted.on rfl rfl rfl hb4870) rfl rfl (.s 0 rfl .nil) (q_move rfl).o <| WL.q (Wanted.on rfl rfl rfl hb4870) rfl rfl (.s 6 rfl (.k .nil)) (q_int rfl rfl).o <| WL.p rfl rfl rfl (.s 5 rfl (.s 7 rfl .nil)) (q_pickT rfl hb4870) <| WL.p rfl rfl rfl (.s 8 rfl .nil) (q_move rfl) ?_
   rcases bif_s h with ⟨hb4871, h⟩ | ⟨hb4871, h⟩
   ·refine WL.skip (Unwanted.on rfl rfl rfl hb4871) rfl rfl <| WL.skip (Unwanted.on rfl rfl rfl hb4871) rfl rfl <| WL.skip (Unwanted.on rfl rfl rfl hb4871) rfl rfl <| WL.skip (Unwanted.und rfl rfl rfl) rfl rfl <| WL.skip (Unwanted.und rfl rfl rfl) rfl rfl <| WL.skip (Unwanted.on rfl rfl rfl hb4871) rfl rfl <| WL.p rfl rfl rfl (.s 9 rfl (.k .nil)) (q_pickT rfl hb4871) <| WL.p rfl rfl rfl (.s 16 rfl .nil) (q_assign rfl) <| WL.nil ?_
    exact QN.weaken (.one rfl (.nil _)) (Kj4869 () true h)
   ·refine WL.q (Wanted.on rfl rfl rfl hb4871) rfl rfl (.s 0 rfl .nil) (q_move rfl).o <| WL.q (Wanted.on rfl rfl rfl hb4871) rfl rfl (.s 10 rfl (.k .nil)) (q_int rfl rfl).o <| WL.q (Wanted.on rfl rfl rfl hb4871) rfl rfl (.s 11 rfl .nil) (q_move rfl).o ?_
    rcases bif_s h with ⟨hb4872, h⟩ | ⟨hb4872, h⟩
    ·refine WL.q (Wanted.on rfl rfl rfl hb4872) rfl rfl (.s 0 rfl .nil) (q_move rfl).o <| WL.q (Wanted.on rfl rfl rfl hb4872) rfl rfl (.s 13 rfl (.k .nil)) (q_int rfl rfl).o <| WL.q (Wanted.on rfl rfl rfl hb4871) rfl rfl (.s 12 rfl (.s 14 rfl .nil)) (q_pickT rfl hb4872).o <| WL.p rfl rfl rfl (.s 9 rfl (.s 15 rfl .nil)) (q_pickF rfl hb4871) <| WL.p rfl rfl rfl (.s 16 rfl .nil) (q_assign rfl) <| WL.nil ?_
     exact QN.weaken (.one rfl (.nil _)) (Kj4869 () (decide (a0 ≤ 90)) h)
    ·refine WL.skip (Unwanted.on rfl rfl rfl hb4872) rfl rfl <| WL.skip (Unwanted.on rfl rfl rfl hb4872) rfl rfl <| WL.q (Wanted.on rfl rfl rfl hb4871) rfl rfl (.s 12 rfl (.k .nil)) (q_pickF rfl hb4872).o <| WL.p rfl rfl rfl (.s 9 rfl (.s 15 rfl .nil)) (q_pickF rfl hb4871) <| WL.p rfl rfl rfl (.s 16 rfl .nil) (q_assign rfl) <| WL.nil ?_
     exact QN.weaken (.one rfl (.nil _)) (Kj4869 () false h)
  ·refine WL.skip (Unwanted.on rfl rfl rfl hb4870) rfl rfl <| WL.skip (Unwanted.on rfl rfl rfl hb4870) rfl rfl <| WL.p rfl rfl rfl (.s 5 rfl (.k .nil)) (q_pickF rfl hb4870) <| WL.p rfl rfl rfl (.s 8 rfl .nil) (q_move rfl) <| WL.q (Wanted.on rfl rfl rfl rfl) rfl rfl (.s 0 rfl .nil) (q_move rfl).o <| WL.q (Wanted.on rfl rfl rfl rfl) rfl rfl (.s 10 rfl (.k .nil)) (q_int rfl rfl).o <| WL.q (Wanted.on rfl rfl rfl rfl) rfl rfl (.s 11 rfl .nil) (q_move rfl).o ?_
   rcases bif_s h with ⟨hb4873, h⟩ | ⟨hb4873, h⟩
   ·refine WL.q (Wanted.on rfl rfl rfl hb4873) rfl rfl (.s 0 rfl .nil) (q_move rfl).o <| WL.q (Wanted.on rfl rfl rfl hb4873) rfl rfl (.s 13 rfl (.k .nil)) (q_int rfl rfl).o <| WL.q (Wanted.on rfl rfl rfl rfl) rfl rfl (.s 12 rfl (.s 14 rfl .nil)) (q_pickT rfl hb4873).o <| WL.p rfl rfl rfl (.s 9 rfl (.s 15 rfl .nil)) (q_pickF rfl rfl) <| WL.p rfl rfl rfl (.s 16 rfl .nil) (q_assign rfl) <| WL.nil ?_
    exact QN.weaken (.one rfl (.nil _)) (Kj4869 () (decide (a0 ≤ 90)) h)
   ·refine WL.skip (Unwanted.on rfl rfl rfl hb4873) rfl rfl <| WL.skip (Unwanted.on rfl rfl rfl hb4873) rfl rfl <| WL.q (Wanted.on rfl rfl rfl rfl) rfl rfl (.s 12 rfl (.k .nil)) (q_pickF rfl hb4873).o <| WL.p rfl rfl rfl (.s 9 rfl (.s 15 rfl .nil)) (q_pickF rfl rfl) <| WL.p rfl rfl rfl (.s 16 rfl .nil) (q_assign rfl) <| WL.nil ?_
    exact QN.weaken (.one rfl (.nil _)) (Kj4869 () false h)
theorem ref01_digit.con (k : Nat) (a0 : Int) (r : Bool) (h : ref01_digit k a0 = some r) : Con Tryz.prog 152 [] [EqA (.int .u8 a0)] (RA (EqA (.bool r))) := by
 unfold ref01_digit at h
 refine Con.of (N := 9) Tryz.func152 rfl rfl rfl fun w0_ fg_ => W.seq <| W.region <| WL.p rfl rfl rfl (.k .nil) (q_assign rfl) <| WL.nil <| QN.then_ <| W.seq ?_
 refine W.jn1 (Γ := Unit) (fun (_ : Unit) (x2 : Bool) => [(2, EqA (.bool x2))]) (fun (_ : Unit) (_ : Bool) => []) h (fun _ x2 h => ?_) (fun j4876 Kj4876 h => ?_)
 ·refine QN.then_ <| W.ret ?_
  cases h
  exact QR.f1 rfl rfl (.t rfl) (.id _)
 ·refine W.region <| WL.p rfl rfl rfl (.s 0 rfl .nil) (q_move rfl) <| WL.p rfl rfl rfl (.s 3 rfl (.k .nil)) (q_int rfl rfl) <| WL.p rfl rfl rfl (.s 4 rfl .nil) (q_move rfl) ?_
  rcases bif_s h with ⟨hb4877, h⟩ | ⟨hb4877, h⟩
  ·refine WL.q (Wanted.on rfl rfl rfl hb4877) rfl rfl (.s 0 rfl .nil) (q_move rfl).o <| WL.q (Wanted.on rfl rfl rfl hb4877) rfl rfl (.s 6 rfl (.k .nil)) (q_int rfl rfl).o <| WL.p rfl rfl rfl (.s 5 rfl (.s 7 rfl .nil)) (q_pickT rfl hb4877) <| WL.p rfl rfl rfl (.s 8 rfl .nil) (q_assign rfl) <| WL.nil ?_
   exact QN.weaken (.one rfl (.nil _)) (Kj4876 () (decide (a0 ≤ 57)) h)
  ·refine WL.skip (Unwanted.on rfl rfl rfl hb4877) rfl rfl <| WL.skip (Unwanted.on rfl rfl rfl hb4877) rfl rfl <| WL.p rfl rfl rfl (.s 5 rfl (.k .nil)) (q_pickF rfl hb4877) <| WL.p rfl rfl rfl (.s 8 rfl .nil) (q_assign rfl) <| WL.nil ?_
   exact QN.weaken (.one rfl (.nil _)) (Kj4876 () false h)
theorem ref01_run.con (k : Nat) (a0 : Str) (a1 : Int) (a2 : Bool) (r : Int) (h : ref01_run k a0 a1 a2 = some r) : Con Tryz.prog 153 [] [EqA (strV a0), EqA (.int .i64 a1), EqA (.bool a2)] (RA (EqA (.int .i64 r))) := by
 unfold ref01_run at h
 refine Con.of (N := 45) Tryz.func153 rfl rfl rfl fun w0_ fg_ => W.seq <| W.region <| WL.p rfl rfl rfl (.k .nil) (q_assign rfl) <| WL.nil <| QN.then_ <| W.seq <| W.region <| WL.p rfl rfl rfl (.k .nil) (q_assign rfl) <| WL.nil <| QN.then_ <| W.seq <| W.block ?_
 refine W.loop1 (Γ := Unit) (fun (_ : Unit) (x7 : Int) => [(0, EqA (strV a0)), (1, EqA (.int .i64 a1)), (2, EqA (.bool a2)), (7, EqA (.int .i64 x7))]) (fun (_ : Unit) (_ : Int) => []) h () (.one rfl (.one rfl (.one rfl (.one rfl (.nil _))))) rfl (fun rec0 K0 next0 _ x7 h => ?_)
 unfold ref01_run.b0 at h
 refine W.seq <| W.seq ?_
 refine W.jn1 (Γ := Unit) (fun (_ : Unit) (x41 : Bool) => [(0, EqA (strV a0)), (1, EqA (.int .i64 a1)), (2, EqA (.bool a2)), (7, EqA (.int .i64 x7)), (41, EqA (.bool x41))]) (fun (_ : Unit) (_ : Bool) => []) h (fun _ x41 h => ?_) (fun j4952 Kj4952 h => ?_)
 ·refine QN.then_ ?_
  refine W.condP h rfl (fun hb4953 h => ?_) (fun hb4953 h => ?_)
  ·refine W.skip <| QN.then_ <| W.block <| W.region <| WL.p rfl rfl rfl (.s 7 rfl .nil) (q_move rfl) ?_
   obtain ⟨c4954, h⟩ := ite_n h
   refine WL.p rfl rfl rfl (.s 42 rfl (.k .nil)) (q_addR rfl c4954) <| WL.p rfl rfl rfl (.s 43 rfl .nil) (q_assign rfl) <| WL.nil <| QN.block ?_
   exact next0 () (x7 + 1) _ h (.one rfl (.one rfl (.one rfl (.one rfl (.nil _)))))
  ·refine W.exit <| QX.then_ <| QX.then_ <| QX.here <| QN.then_ <| W.seq <| W.region <| WL.p rfl rfl rfl (.s 7 rfl .nil) (q_move rfl) <| WL.p rfl rfl rfl (.s 44 rfl .nil) (q_assign rfl) <| WL.nil <| QN.then_ <| W.ret ?_
   cases h
   exact QR.f1 rfl rfl (.t rfl) (.id _)
 ·refine W.region <| WL.p rfl rfl rfl (.s 1 rfl .nil) (q_move rfl) <| WL.p rfl rfl rfl (.s 7 rfl .nil) (q_move rfl) ?_
  obtain ⟨c4955, h⟩ := ite_n h
  refine WL.p rfl rfl rfl (.s 8 rfl (.s 9 rfl .nil)) (q_addR rfl c4955) <| WL.p rfl rfl rfl (.s 0 rfl .nil) (q_move rfl) <| WL.p rfl rfl rfl (.s 11 rfl .nil) (q_slen (s := a0) rfl iss9) <| WL.p rfl rfl rfl (.s 10 rfl (.s 12 rfl .nil)) (q_int rfl rfl) <| WL.p rfl rfl rfl (.s 13 rfl .nil) (q_move rfl) ?_
  rcases bif_s h with ⟨hb4956, h⟩ | ⟨hb4956, h⟩
  ·refine WL.q (Wanted.on rfl rfl rfl hb4956) rfl rfl (.s 0 rfl .nil) (q_move rfl).o <| WL.q (Wanted.on rfl rfl rfl hb4956) rfl rfl (.s 1 rfl .nil) (q_move rfl).o <| WL.q (Wanted.on rfl rfl rfl hb4956) rfl rfl (.s 7 rfl .nil) (q_move rfl).o ?_
   obtain ⟨c4957, h⟩ := ite_n h
   refine WL.q (Wanted.on rfl rfl rfl hb4956) rfl rfl (.s 16 rfl (.s 17 rfl .nil)) (q_addR rfl c4957).o ?_
   obtain ⟨c4958, h⟩ := ite_n h
   refine WL.q (Wanted.on rfl rfl rfl hb4956) rfl rfl (.s 15 rfl (.s 18 rfl .nil)) (q_sindex rfl iss9 c4958.1 c4958.2).o ?_
   obtain ⟨t4959, ht4959, h⟩ := bind_s h
   refine WL.q (Wanted.on rfl rfl rfl hb4956) rfl rfl (.s 19 rfl .nil) (q_call (f := 152) (A := EqA (.bool t4959)) (xs := [.tmp 19]) («as» := [EqA (.int .u8 (bt a0 (a1 + x7)))]) rfl ca152 (ref01_digit.con k (bt a0 (a1 + x7)) t4959 ht4959) rfl).o <| WL.q (Wanted.on rfl rfl rfl hb4956) rfl rfl (.s 20 rfl .nil) (q_move rfl).o ?_
   rcases bif_s h with ⟨hb4960, h⟩ | ⟨hb4960, h⟩
   ·refine WL.skip (Unwanted.on rfl rfl rfl hb4960) rfl rfl <| WL.skip (Unwanted.on rfl rfl rfl hb4960) rfl rfl <| WL.skip (Unwanted.on rfl rfl rfl hb4960) rfl rfl <| WL.skip (Unwanted.und rfl rfl rfl) rfl rfl <| WL.skip (Unwanted.und rfl rfl rfl) rfl rfl <| WL.skip (Unwanted.und rfl rfl rfl) rfl rfl <| WL.skip (Unwanted.und rfl rfl rfl) rfl rfl <| WL.skip (Unwanted.und rfl rfl rfl) rfl rfl <| WL.skip (Unwanted.und rfl rfl rfl) rfl rfl <| WL.skip (Unwanted.und rfl rfl rfl) rfl rfl <| WL.skip (Unwanted.und rfl rfl rfl) rfl rfl <| WL.skip (Unwanted.und rfl rfl rfl) rfl rfl <| WL.skip (Unwanted.und rfl rfl rfl) rfl rfl ?_
    refine WL.skip (Unwanted.und rfl rfl rfl) rfl rfl <| WL.skip (Unwanted.und rfl rfl rfl) rfl rfl <| WL.skip (Unwanted.und rfl rfl rfl) rfl rfl <| WL.skip (Unwanted.und rfl rfl rfl) rfl rfl <| WL.skip (Unwanted.on rfl rfl rfl hb4960) rfl rfl <| WL.q (Wanted.on rfl rfl rfl hb4956) rfl rfl (.s 21 rfl (.k .nil)) (q_pickT rfl hb4960).o <| WL.p rfl rfl rfl (.s 14 rfl (.s 40 rfl .nil)) (q_pickT rfl hb4956) <| WL.nil ?_
    exact QN.weaken (.one rfl (.one rfl (.one rfl (.one rfl (.one rfl (.nil _)))))) (Kj4952 () true h)
   ·refine WL.q (Wanted.on rfl rfl rfl hb4960) rfl rfl (.s 2 rfl .nil) (q_move rfl).o <| WL.q (Wanted.on rfl rfl rfl hb4960) rfl rfl (.s 22 rfl .nil) (q_not rfl).o <| WL.q (Wanted.on rfl rfl rfl hb4960) rfl rfl (.s 23 rfl .nil) (q_move rfl).o ?_
    rcases bif_s h with ⟨hb4961, h⟩ | ⟨hb4961, h⟩
    ·refine WL.q (Wanted.on rfl rfl rfl hb4961) rfl rfl (.s 0 rfl .nil) (q_move rfl).o <| WL.q (Wanted.on rfl rfl rfl hb4961) rfl rfl (.s 1 rfl .nil) (q_move rfl).o <| WL.q (Wanted.on rfl rfl rfl hb4961) rfl rfl (.s 7 rfl .nil) (q_move rfl).o ?_
     obtain ⟨c4962, h⟩ := ite_n h
     refine WL.q (Wanted.on rfl rfl rfl hb4961) rfl rfl (.s 26 rfl (.s 27 rfl .nil)) (q_addR rfl c4962).o ?_
     obtain ⟨c4963, h⟩ := ite_n h
     refine WL.q (Wanted.on rfl rfl rfl hb4961) rfl rfl (.s 25 rfl (.s 28 rfl .nil)) (q_sindex rfl iss9 c4963.1 c4963.2).o ?_
     obtain ⟨t4964, ht4964, h⟩ := bind_s h
     refine WL.q (Wanted.on rfl rfl rfl hb4961) rfl rfl (.s 29 rfl .nil) (q_call (f := 151) (A := EqA (.bool t4964)) (xs := [.tmp 29]) («as» := [EqA (.int .u8 (bt a0 (a1 + x7)))]) rfl ca151 (ref01_letter.con k (bt a0 (a1 + x7)) t4964 ht4964) rfl).o <| WL.q (Wanted.on rfl rfl rfl hb4961) rfl rfl (.s 30 rfl .nil) (q_move rfl).o ?_
     rcases bif_s h with ⟨hb4965, h⟩ | ⟨hb4965, h⟩
     ·refine WL.skip (Unwanted.on rfl rfl rfl hb4965) rfl rfl <| WL.skip (Unwanted.on rfl rfl rfl hb4965) rfl rfl <| WL.skip (Unwanted.on rfl rfl rfl hb4965) rfl rfl <| WL.skip (Unwanted.on rfl rfl rfl hb4965) rfl rfl <| WL.skip (Unwanted.on rfl rfl rfl hb4965) rfl rfl <| WL.skip (Unwanted.on rfl rfl rfl hb4965) rfl rfl <| WL.q (Wanted.on rfl rfl rfl hb4961) rfl rfl (.s 31 rfl (.k .nil)) (q_pickT rfl hb4965).o <| WL.q (Wanted.on rfl rfl rfl hb4960) rfl rfl (.s 24 rfl (.s 38 rfl .nil)) (q_pickT rfl hb4961).o <| WL.q (Wanted.on rfl rfl rfl hb4956) rfl rfl (.s 21 rfl (.s 39 rfl .nil)) (q_pickF rfl hb4960).o <| WL.p rfl rfl rfl (.s 14 rfl (.s 40 rfl .nil)) (q_pickT rfl hb4956) <| WL.nil ?_
      exact QN.weaken (.one rfl (.one rfl (.one rfl (.one rfl (.one rfl (.nil _)))))) (Kj4952 () true h)
     ·refine WL.q (Wanted.on rfl rfl rfl hb4965) rfl rfl (.s 0 rfl .nil) (q_move rfl).o <| WL.q (Wanted.on rfl rfl rfl hb4965) rfl rfl (.s 1 rfl .nil) (q_move rfl).o <| WL.q (Wanted.on rfl rfl rfl hb4965) rfl rfl (.s 7 rfl .nil) (q_move rfl).o ?_
      obtain ⟨c4966, h⟩ := ite_n h
      refine WL.q (Wanted.on rfl rfl rfl hb4965) rfl rfl (.s 33 rfl (.s 34 rfl .nil)) (q_addR rfl c4966).o ?_
      obtain ⟨c4967, h⟩ := ite_n h
      refine WL.q (Wanted.on rfl rfl rfl hb4965) rfl rfl (.s 32 rfl (.s 35 rfl .nil)) (q_sindex rfl iss9 c4967.1 c4967.2).o <| WL.q (Wanted.on rfl rfl rfl hb4965) rfl rfl (.s 36 rfl (.k .nil)) (q_int rfl rfl).o <| WL.q (Wanted.on rfl rfl rfl hb4961) rfl rfl (.s 31 rfl (.s 37 rfl .nil)) (q_pickF rfl hb4965).o <| WL.q (Wanted.on rfl rfl rfl hb4960) rfl rfl (.s 24 rfl (.s 38 rfl .nil)) (q_pickT rfl hb4961).o <| WL.q (Wanted.on rfl rfl rfl hb4956) rfl rfl (.s 21 rfl (.s 39 rfl .nil)) (q_pickF rfl hb4960).o <| WL.p rfl rfl rfl (.s 14 rfl (.s 40 rfl .nil)) (q_pickT rfl hb4956) <| WL.nil ?_
      exact QN.weaken (.one rfl (.one rfl (.one rfl (.one rfl (.one rfl (.nil _)))))) (Kj4952 () ((bt a0 (a1 + x7)) == 95) h)
    ·refine WL.skip (Unwanted.on rfl rfl rfl hb4961) rfl rfl <| WL.skip (Unwanted.on rfl rfl rfl hb4961) rfl rfl <| WL.skip (Unwanted.on rfl rfl rfl hb4961) rfl rfl <| WL.skip (Unwanted.on rfl rfl rfl hb4961) rfl rfl <| WL.skip (Unwanted.on rfl rfl rfl hb4961) rfl rfl <| WL.skip (Unwanted.on rfl rfl rfl hb4961) rfl rfl <| WL.skip (Unwanted.on rfl rfl rfl hb4961) rfl rfl <| WL.skip (Unwanted.und rfl rfl rfl) rfl rfl <| WL.skip (Unwanted.und rfl rfl rfl) rfl rfl <| WL.skip (Unwanted.und rfl rfl rfl) rfl rfl <| WL.skip (Unwanted.und rfl rfl rfl) rfl rfl <| WL.skip (Unwanted.und rfl rfl rfl) rfl rfl <| WL.skip (Unwanted.und rfl rfl rfl) rfl rfl ?_
     refine WL.skip (Unwanted.on rfl rfl rfl hb4961) rfl rfl <| WL.q (Wanted.on rfl rfl rfl hb4960) rfl rfl (.s 24 rfl (.k .nil)) (q_pickF rfl hb4961).o <| WL.q (Wanted.on rfl rfl rfl hb4956) rfl rfl (.s 21 rfl (.s 39 rfl .nil)) (q_pickF rfl hb4960).o <| WL.p rfl rfl rfl (.s 14 rfl (.s 40 rfl .nil)) (q_pickT rfl hb4956) <| WL.nil ?_
     exact QN.weaken (.one rfl (.one rfl (.one rfl (.one rfl (.one rfl (.nil _)))))) (Kj4952 () false h)
  ·refine WL.skip (Unwanted.on rfl rfl rfl hb4956) rfl rfl <| WL.skip (Unwanted.on rfl rfl rfl hb4956) rfl rfl <| WL.skip (Unwanted.on rfl rfl rfl hb4956) rfl rfl <| WL.skip (Unwanted.on rfl rfl rfl hb4956) rfl rfl <| WL.skip (Unwanted.on rfl rfl rfl hb4956) rfl rfl <| WL.skip (Unwanted.on rfl rfl rfl hb4956) rfl rfl <| WL.skip (Unwanted.on rfl rfl rfl hb4956) rfl rfl <| WL.skip (Unwanted.und rfl rfl rfl) rfl rfl <| WL.skip (Unwanted.und rfl rfl rfl) rfl rfl <| WL.skip (Unwanted.und rfl rfl rfl) rfl rfl <| WL.skip (Unwanted.und rfl rfl rfl) rfl rfl <| WL.skip (Unwanted.und rfl rfl rfl) rfl rfl <| WL.skip (Unwanted.und rfl rfl rfl) rfl rfl ?_
   refine WL.skip (Unwanted.und rfl rfl rfl) rfl rfl <| WL.skip (Unwanted.und rfl rfl rfl) rfl rfl <| WL.skip (Unwanted.und rfl rfl rfl) rfl rfl <| WL.skip (Unwanted.und rfl rfl rfl) rfl rfl <| WL.skip (Unwanted.und rfl rfl rfl) rfl rfl <| WL.skip (Unwanted.und rfl rfl rfl) rfl rfl <| WL.skip (Unwanted.und rfl rfl rfl) rfl rfl <| WL.skip (Unwanted.und rfl rfl rfl) rfl rfl <| WL.skip (Unwanted.und rfl rfl rfl) rfl rfl <| WL.skip (Unwanted.und rfl rfl rfl) rfl rfl <| WL.skip (Unwanted.und rfl rfl rfl) rfl rfl <| WL.skip (Unwanted.und rfl rfl rfl) rfl rfl <| WL.skip (Unwanted.on rfl rfl rfl hb4956) rfl rfl ?_
   refine WL.p rfl rfl rfl (.s 14 rfl (.k .nil)) (q_pickF rfl hb4956) <| WL.nil ?_
   exact QN.weaken (.one rfl (.one rfl (.one rfl (.one rfl (.one rfl (.nil _)))))) (Kj4952 () false h)
theorem ref01_quoted.con (k : Nat) (a0 : Str) (a1 : Int) (r : Int) (h : ref01_quoted k a0 a1 = some r) : Con Tryz.prog 154 [] [EqA (strV a0), EqA (.int .i64 a1)] (RA (EqA (.int .i64 r))) := by
 unfold ref01_quoted at h
 refine Con.of (N := 30) Tryz.func154 rfl rfl rfl fun w0_ fg_ => W.seq <| W.region <| WL.p rfl rfl rfl (.k .nil) (q_assign rfl) <| WL.nil <| QN.then_ <| W.seq <| W.seq <| W.region <| WL.p rfl rfl rfl (.k .nil) (q_assign rfl) <| WL.nil <| QN.then_ <| W.block ?_
 refine W.loop1 (Γ := Unit) (fun (_ : Unit) (x5 : Int) => [(0, EqA (strV a0)), (1, EqA (.int .i64 a1)), (5, EqA (.int .i64 x5))]) (fun (_ : Unit) (_ : Int) => []) h () (.one rfl (.one rfl (.one rfl (.nil _)))) rfl (fun rec0 K0 next0 _ x5 h => ?_)
 unfold ref01_quoted.b0 at h
 refine W.seq <| W.seq <| W.region <| WL.p rfl rfl rfl (.s 1 rfl .nil) (q_move rfl) <| WL.p rfl rfl rfl (.s 5 rfl .nil) (q_move rfl) ?_
 obtain ⟨c4992, h⟩ := ite_n h
 refine WL.p rfl rfl rfl (.s 7 rfl (.s 8 rfl .nil)) (q_addR rfl c4992) <| WL.p rfl rfl rfl (.s 0 rfl .nil) (q_move rfl) <| WL.p rfl rfl rfl (.s 10 rfl .nil) (q_slen (s := a0) rfl iss9) <| WL.p rfl rfl rfl (.s 9 rfl (.s 11 rfl .nil)) (q_int rfl rfl) <| WL.nil <| QN.then_ ?_
 refine W.condP h rfl (fun hb4993 h => ?_) (fun hb4993 h => ?_)
 ·refine W.skip <| QN.then_ <| W.seq <| W.block <| W.seq <| W.region <| WL.p rfl rfl rfl (.s 0 rfl .nil) (q_move rfl) <| WL.p rfl rfl rfl (.s 1 rfl .nil) (q_move rfl) <| WL.p rfl rfl rfl (.s 5 rfl .nil) (q_move rfl) ?_
  obtain ⟨c4994, h⟩ := ite_n h
  refine WL.p rfl rfl rfl (.s 16 rfl (.s 17 rfl .nil)) (q_addR rfl c4994) ?_
  obtain ⟨c4995, h⟩ := ite_n h
  refine WL.p rfl rfl rfl (.s 15 rfl (.s 18 rfl .nil)) (q_sindex rfl iss9 c4995.1 c4995.2) <| WL.p rfl rfl rfl (.s 19 rfl .nil) (q_assign rfl) <| WL.nil <| QN.weaken (env' := [(6, _), (5, _), (1, _), (0, _)]) (.one rfl (.one rfl (.one rfl (.one rfl (.nil _))))) <| QN.then_ <| W.seq <| W.seq <| W.region <| WL.p rfl rfl rfl (.s 6 rfl .nil) (q_move rfl) <| WL.p rfl rfl rfl (.s 20 rfl (.k .nil)) (q_int rfl rfl) <| WL.nil <| QN.then_ ?_
  refine W.condP h rfl (fun hb4996 h => ?_) (fun hb4996 h => ?_)
  ·refine W.seq <| W.region <| WL.p rfl rfl rfl (.s 5 rfl .nil) (q_move rfl) ?_
   obtain ⟨c4997, h⟩ := ite_n h
   refine WL.p rfl rfl rfl (.s 22 rfl (.k .nil)) (q_addR rfl c4997) <| WL.p rfl rfl rfl (.s 23 rfl .nil) (q_assign rfl) <| WL.nil <| QN.weaken (env' := [(4, _)]) (.one rfl (.nil _)) <| QN.then_ <| W.ret <| QR.then_ <| QR.block <| QR.then_ <| QR.then_ <| QR.block <| QR.then_ ?_
   cases h
   exact QR.f1 rfl rfl (.t rfl) (.id _)
  ·refine W.skip <| QN.then_ <| W.seq ?_
   refine W.jn1 (Γ := Unit) (fun (_ : Unit) (x29 : Bool) => [(0, EqA (strV a0)), (1, EqA (.int .i64 a1)), (5, EqA (.int .i64 x5)), (29, EqA (.bool x29))]) (fun (_ : Unit) (_ : Bool) => []) h (fun _ x29 h => ?_) (fun j5000 Kj5000 h => ?_)
   ·refine QN.then_ ?_
    refine W.condP h rfl (fun hb5001 h => ?_) (fun hb5001 h => ?_)
    ·refine W.seq <| W.region <| WL.p rfl rfl rfl (.k .nil) (q_assign rfl) <| WL.nil <| QN.then_ <| W.ret <| QR.block <| QR.then_ <| QR.then_ <| QR.block <| QR.then_ ?_
     cases h
     exact QR.f1 rfl rfl (.t rfl) (.id _)
    ·refine W.skip <| QN.block <| QN.then_ <| W.region <| WL.p rfl rfl rfl (.s 5 rfl .nil) (q_move rfl) ?_
     obtain ⟨c5002, h⟩ := ite_n h
     refine WL.p rfl rfl rfl (.s 13 rfl (.k .nil)) (q_addR rfl c5002) <| WL.p rfl rfl rfl (.s 14 rfl .nil) (q_assign rfl) <| WL.nil ?_
     exact next0 () (x5 + 1) _ h (.one rfl (.one rfl (.one rfl (.nil _))))
   ·refine W.region <| WL.p rfl rfl rfl (.s 6 rfl .nil) (q_move rfl) <| WL.p rfl rfl rfl (.s 24 rfl (.k .nil)) (q_int rfl rfl) <| WL.p rfl rfl rfl (.s 25 rfl .nil) (q_move rfl) ?_
    rcases bif_s h with ⟨hb5003, h⟩ | ⟨hb5003, h⟩
    ·refine WL.skip (Unwanted.on rfl rfl rfl hb5003) rfl rfl <| WL.skip (Unwanted.on rfl rfl rfl hb5003) rfl rfl <| WL.p rfl rfl rfl (.s 26 rfl (.k .nil)) (q_pickT rfl hb5003) <| WL.nil ?_
     exact QN.weaken (.one rfl (.one rfl (.one rfl (.one rfl (.nil _))))) (Kj5000 () true h)
    ·refine WL.q (Wanted.on rfl rfl rfl hb5003) rfl rfl (.s 6 rfl .nil) (q_move rfl).o <| WL.q (Wanted.on rfl rfl rfl hb5003) rfl rfl (.s 27 rfl (.k .nil)) (q_int rfl rfl).o <| WL.p rfl rfl rfl (.s 26 rfl (.s 28 rfl .nil)) (q_pickF rfl hb5003) <| WL.nil ?_
     exact QN.weaken (.one rfl (.one rfl (.one rfl (.one rfl (.nil _))))) (Kj5000 () (decide ((bt a0 (a1 + x5)) > 126)) h)
 ·refine W.exit <| QX.then_ <| QX.then_ <| QX.here <| QN.weaken (env' := []) (.nil _) <| QN.then_ <| W.seq <| W.region <| WL.p rfl rfl rfl (.k .nil) (q_assign rfl) <| WL.nil <| QN.then_ <| W.ret ?_
  cases h
  exact QR.f1 rfl rfl (.t rfl) (.id _)
end Go.Proofs.YtelpgjfojhcjcaaGreat
