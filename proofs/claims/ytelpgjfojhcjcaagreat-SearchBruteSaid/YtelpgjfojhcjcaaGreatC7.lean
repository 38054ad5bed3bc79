/- The Go functions compute the pure ones. (Printed by gen.py.) -/
import Derived.Test.YtelpgjfojhcjcaaGreatC6
namespace Go.Proofs.YtelpgjfojhcjcaaGreat
open Go Go.Abs
attribute [local irreducible] Tryz.prog
theorem slices_Equal_int.con (k : Nat) (a0 : (List Int)) (a1 : (List Int)) (r : Bool) (h : slices_Equal_int k a0 a1 = some r) : Con Tryz.prog 32 [] [SlcA kInt a0, SlcA kInt a1] (RA (EqA (.bool r))) := by
 unfold slices_Equal_int at h
 refine Con.of (N := 26) Tryz.func32 rfl rfl rfl fun w0_ fg_ => W.seq <| W.region <| WL.p rfl rfl rfl (.k .nil) (q_assign rfl) <| WL.nil <| QN.then_ <| W.seq <| W.seq <| W.region <| WL.p rfl rfl rfl (.s 0 rfl .nil) (q_move rfl) <| WL.p rfl rfl rfl (.s 6 rfl .nil) (q_len rfl elS26) <| WL.p rfl rfl rfl (.s 1 rfl .nil) (q_move rfl) <| WL.p rfl rfl rfl (.s 8 rfl .nil) (q_len rfl elS26) ?_
 refine WL.p rfl rfl rfl (.s 7 rfl (.s 9 rfl .nil)) (q_int rfl rfl) <| WL.nil <| QN.then_ ?_
 refine W.condP h rfl (fun hb7572 h => ?_) (fun hb7572 h => ?_)
 ·refine W.seq <| W.region <| WL.p rfl rfl rfl (.k .nil) (q_assign rfl) <| WL.nil <| QN.weaken (env' := [(4, _)]) (.one rfl (.nil _)) <| QN.then_ <| W.ret <| QR.then_ ?_
  cases h
  exact QR.f1 rfl rfl (.t rfl) (.id _)
 ·refine W.skip <| QN.then_ <| W.seq <| W.seq <| W.region <| WL.p rfl rfl rfl (.s 0 rfl .nil) (q_move rfl) <| WL.p rfl rfl rfl (.s 11 rfl .nil) (q_len rfl elS26) <| WL.p rfl rfl rfl (.k .nil) (q_move rfl) <| WL.nil <| QN.weaken (env' := [(13, _), (12, _), (1, _), (0, _)]) (.one rfl (.one rfl (.one rfl (.one rfl (.nil _))))) <| QN.then_ <| W.block ?_
  refine W.loop1 (Γ := Unit) (fun (_ : Unit) (x13 : Int) => [(0, SlcA kInt a0), (1, SlcA kInt a1), (12, EqA (.int .i64 (a0.length : Int))), (13, EqA (.int .i64 x13))]) (fun (_ : Unit) (_ : Int) => []) h () (.one rfl (.one rfl (.one rfl (.one rfl (.nil _))))) rfl (fun rec0 K0 next0 _ x13 h => ?_)
  unfold slices_Equal_int.b0 at h
  refine W.seq <| W.region <| WL.p rfl rfl rfl (.s 13 rfl (.s 12 rfl .nil)) (q_int rfl rfl) <| WL.nil <| QN.then_ <| W.seq ?_
  refine W.condP h rfl (fun hb7591 h => ?_) (fun hb7591 h => ?_)
  ·refine W.skip <| QN.then_ <| W.seq <| W.block <| W.seq <| W.region <| WL.p rfl rfl rfl (.s 13 rfl .nil) (q_move rfl) <| WL.p rfl rfl rfl (.s 15 rfl .nil) (q_assign rfl) <| WL.nil <| QN.then_ <| W.seq <| W.drawK [(0, false), (1, false), (2, false), (3, false), (4, false), (5, false), (6, false), (7, false), (8, false)] [] [[], [], [0, 1], [0, 1, 2], [], [], [4, 5], [4, 5, 6], [0, 1, 2, 3, 4, 5, 6, 7]] mx (by kernel_rfl) <| DK.cons rfl rfl (.p rfl (.s 0 rfl .nil) rfl (q_move rfl)) ?_
   refine DK.cons rfl rfl (.p rfl (.s 5 rfl .nil) rfl (q_move rfl)) ?_
   obtain ⟨c7596, h⟩ := ite_n h
   refine DK.cons rfl rfl (.p rfl (.s 16 rfl (.s 17 rfl .nil)) rfl (q_index rfl el26 rfl c7596.1 c7596.2)) <| DK.cons rfl rfl (.p rfl (.s 18 rfl .nil) rfl (q_load rfl sh3)) <| DK.cons rfl rfl (.p rfl (.s 1 rfl .nil) rfl (q_move rfl)) <| DK.cons rfl rfl (.p rfl (.s 5 rfl .nil) rfl (q_move rfl)) ?_
   obtain ⟨c7597, h⟩ := ite_n h
   refine DK.cons rfl rfl (.p rfl (.s 20 rfl (.s 21 rfl .nil)) rfl (q_index rfl el26 rfl c7597.1 c7597.2)) <| DK.cons rfl rfl (.p rfl (.s 22 rfl .nil) rfl (q_load rfl sh3)) <| DK.cons rfl rfl (.p rfl (.s 19 rfl (.s 23 rfl .nil)) rfl (q_int rfl rfl)) <| DK.nil <| CSteps.nil <| QN.weaken (env' := [(24, _), (13, _), (12, _), (1, _), (0, _)]) (.one rfl (.one rfl (.one rfl (.one rfl (.one rfl (.nil _)))))) <| QN.then_ ?_
   refine W.condP h rfl (fun hb7598 h => ?_) (fun hb7598 h => ?_)
   ·refine W.seq <| W.region <| WL.p rfl rfl rfl (.k .nil) (q_assign rfl) <| WL.nil <| QN.then_ <| W.ret <| QR.block <| QR.then_ <| QR.then_ <| QR.block <| QR.then_ ?_
    cases h
    exact QR.f1 rfl rfl (.t rfl) (.id _)
   ·refine W.skip <| QN.block <| QN.then_ <| W.region ?_
    obtain ⟨c7599, h⟩ := ite_n h
    refine WL.p rfl rfl rfl (.s 13 rfl (.k .nil)) (q_addR rfl c7599) <| WL.p rfl rfl rfl (.s 25 rfl .nil) (q_move rfl) <| WL.nil ?_
    exact next0 () (x13 + 1) _ h (.one rfl (.one rfl (.one rfl (.one rfl (.nil _)))))
  ·refine W.exit <| QX.then_ <| QX.then_ <| QX.here <| QN.then_ <| W.seq <| W.region <| WL.p rfl rfl rfl (.k .nil) (q_assign rfl) <| WL.nil <| QN.then_ <| W.ret ?_
   cases h
   exact QR.f1 rfl rfl (.t rfl) (.id _)
theorem law17_awake.con (k : Nat) (r : Bool) (h : law17_awake k = some r) : Con Tryz.prog 9 [] [] (RA (EqA (.bool r))) := by
 unfold law17_awake at h
 refine Con.of (N := 64) Tryz.func9 rfl rfl rfl fun w0_ fg_ => W.seq <| W.region <| WL.p rfl rfl rfl (.k .nil) (q_assign rfl) <| WL.nil <| QN.then_ <| W.seq <| W.region ?_
 obtain ⟨t7600, ht7600, h⟩ := bind_s h
 refine WL.p rfl rfl rfl .nil (q_call (f := 30) (A := AggA [SlcA kNodeType t7600.fNodes, SlcA kEdgeType t7600.fEdges]) (xs := []) («as» := []) rfl ca30 (ref04_Example.con k  t7600 ht7600) rfl) <| WL.p rfl rfl rfl (.k (.k .nil)) (q_lit (kd := kInt) (ps := [(0, .const (.int .i64 0)), (1, .const (.int .i64 0))]) (xs := [.const (.int .i64 0), .const (.int .i64 0)]) («as» := [EqA (.int .i64 0), EqA (.int .i64 0)]) (ys := [0, 0]) rfl rfl el26 rfl gr3 rfl rfl rfl (.cons (CellsOf.one rfl) (.cons (CellsOf.one rfl) .nil))) <| WL.p rfl rfl rfl (.s 10 rfl .nil) (q_build (is := [0]) (xs := [.tmp 10]) (L := [SlcA kInt [0, 0], EqA (.slice none 0 0)]) rfl rfl z29 pl29 rfl rfl (.cons (CellsOf.one rfl) .nil) rfl) <| WL.w [] rfl (Wanted.plain rfl) rfl rfl .nil (w_alloc rfl z25 (l := [EqA (.slice none 0 0), EqA (.slice none 0 0)]) rfl) ?_
 rintro _ _ ⟨b7601, rfl, rfl⟩
 refine WL.w [] rfl (Wanted.plain rfl) rfl rfl .nil (w_alloc rfl z29 (l := [EqA (.slice none 0 0), EqA (.slice none 0 0)]) rfl) ?_
 rintro _ _ ⟨b7602, rfl, rfl⟩
 refine WL.w0 [1] rfl (Wanted.plain rfl) rfl (.s 1 rfl (.s 9 rfl .nil)) (w_store (L := [SlcA kNodeType t7600.fNodes, SlcA kEdgeType t7600.fEdges]) rfl sh25 (CellsOf.agg _) rfl rfl (leB rfl) rfl) ?_
 rintro _ _ ⟨rfl, rfl⟩
 refine WL.w0 [1] rfl (Wanted.plain rfl) rfl (.s 2 rfl (.s 11 rfl .nil)) (w_store (L := [SlcA kInt [0, 0], EqA (.slice none 0 0)]) rfl sh29 (CellsOf.agg _) rfl rfl (leB rfl) rfl) ?_
 rintro _ _ ⟨rfl, rfl⟩
 refine WL.nil <| QN.to (StTo.still [1] 1 rfl rfl) <| QN.to (StTo.still [0] 2 rfl rfl) <| QN.then_ <| W.seq <| W.drawK [(0, false), (1, false), (2, false), (3, false), (4, false), (5, false), (6, false), (7, false), (8, false)] [] [[], [], [], [0, 1, 2], [0, 1, 2, 3], [0, 1, 2, 3, 4], [0, 1, 2, 3, 4], [0, 1, 2, 3, 4, 5], [0, 1, 2, 3, 4, 5, 6, 7]] mx (by kernel_rfl) <| DK.cons rfl rfl (.p rfl (.s 1 rfl .nil) rfl (q_loadS rfl sh25 (leB rfl) rfl)) <| DK.cons rfl rfl (.p rfl (.s 2 rfl .nil) rfl (q_loadS rfl sh29 (leB rfl) rfl)) ?_
 obtain ⟨t7607, ht7607, h⟩ := bind_s h
 refine DK.cons rfl rfl (.p rfl .nil rfl (q_call (f := 31) (A := AggA [SlcA kInt t7607.fNodes, SlcA kEdge t7607.fEdges]) (xs := []) («as» := []) rfl ca31 (law17_bank.con k  t7607 ht7607) rfl)) ?_
 obtain ⟨t7608, ht7608, h⟩ := bind_s h
 refine DK.cons rfl rfl (.p rfl (.s 13 rfl (.s 14 rfl (.s 15 rfl (.k .nil)))) rfl (q_callI (f := 24) (A := TupA [SlcA kMorphism t7608.1, EqA (.int .i64 t7608.2)]) (xs := [.tmp 13, .tmp 14, .tmp 15, .const (.bool true)]) («as» := [AggA [SlcA kNodeType t7600.fNodes, SlcA kEdgeType t7600.fEdges], AggA [SlcA kInt [0, 0], EqA (.slice none 0 0)], AggA [SlcA kInt t7607.fNodes, SlcA kEdge t7607.fEdges], EqA (.bool true)]) rfl ca24 (search_All.con k t7600 (Graph.mk [0, 0] []) t7607 true t7608 ht7608) rfl (.cons (Imp.id _) (.cons (Imp.agg (.cons (Imp.id _) (.cons (Imp.nil kEdge) .nil))) (.cons (Imp.id _) (.cons (Imp.id _) .nil)))))) <| DK.cons rfl rfl (.p rfl (.s 16 rfl .nil) rfl (q_move rfl)) <| DK.cons rfl rfl (.p rfl (.s 12 rfl .nil) rfl (q_extract rfl rfl)) <| DK.cons rfl rfl (.p rfl (.s 12 rfl .nil) rfl (q_extract rfl rfl)) <| DK.cons rfl rfl (.p rfl (.s 17 rfl .nil) rfl (q_assign rfl)) <| DK.cons rfl rfl (.p rfl (.s 18 rfl .nil) rfl (q_assign rfl)) <| DK.nil <| CSteps.nil <| QN.weaken (env' := [(4, _), (3, _), (2, _), (1, _)]) (.one rfl (.one rfl (.one rfl (.one rfl (.nil _))))) <| QN.then_ <| W.seq <| W.drawK [(0, false), (1, false), (2, false), (3, false), (4, false), (5, false), (6, false), (7, false), (8, false)] [] [[], [], [], [0, 1, 2], [0, 1, 2, 3], [0, 1, 2, 3, 4], [0, 1, 2, 3, 4], [0, 1, 2, 3, 4, 5], [0, 1, 2, 3, 4, 5, 6, 7]] mx (by kernel_rfl) <| DK.cons rfl rfl (.p rfl (.s 1 rfl .nil) rfl (q_loadS rfl sh25 (leB rfl) rfl)) ?_
 refine DK.cons rfl rfl (.p rfl (.s 2 rfl .nil) rfl (q_loadS rfl sh29 (leB rfl) rfl)) ?_
 obtain ⟨t7613, ht7613, h⟩ := bind_s h
 refine DK.cons rfl rfl (.p rfl .nil rfl (q_call (f := 31) (A := AggA [SlcA kInt t7613.fNodes, SlcA kEdge t7613.fEdges]) (xs := []) («as» := []) rfl ca31 (law17_bank.con k  t7613 ht7613) rfl)) ?_
 obtain ⟨t7614, ht7614, h⟩ := bind_s h
 refine DK.cons rfl rfl (.p rfl (.s 20 rfl (.s 21 rfl (.s 22 rfl (.k .nil)))) rfl (q_callI (f := 28) (A := TupA [EqA (.int .i64 t7614.1), EqA (.int .i64 t7614.2)]) (xs := [.tmp 20, .tmp 21, .tmp 22, .const (.bool false)]) («as» := [AggA [SlcA kNodeType t7600.fNodes, SlcA kEdgeType t7600.fEdges], AggA [SlcA kInt [0, 0], EqA (.slice none 0 0)], AggA [SlcA kInt t7613.fNodes, SlcA kEdge t7613.fEdges], EqA (.bool false)]) rfl ca28 (search_Count.con k t7600 (Graph.mk [0, 0] []) t7613 false t7614 ht7614) rfl (.cons (Imp.id _) (.cons (Imp.agg (.cons (Imp.id _) (.cons (Imp.nil kEdge) .nil))) (.cons (Imp.id _) (.cons (Imp.id _) .nil)))))) <| DK.cons rfl rfl (.p rfl (.s 23 rfl .nil) rfl (q_move rfl)) <| DK.cons rfl rfl (.p rfl (.s 19 rfl .nil) rfl (q_extract rfl rfl)) <| DK.cons rfl rfl (.p rfl (.s 19 rfl .nil) rfl (q_extract rfl rfl)) <| DK.cons rfl rfl (.p rfl (.s 24 rfl .nil) rfl (q_assign rfl)) <| DK.cons rfl rfl (.p rfl (.s 25 rfl .nil) rfl (q_assign rfl)) <| DK.nil <| CSteps.nil <| QN.weaken (env' := [(6, _), (5, _), (4, _), (3, _), (2, _), (1, _)]) (.one rfl (.one rfl (.one rfl (.one rfl (.one rfl (.one rfl (.nil _))))))) <| QN.then_ <| W.seq <| W.drawK [(0, false), (1, false), (2, false), (3, false), (4, false), (5, false), (6, false), (7, false), (8, false)] [9, 10, 11] [[], [], [], [], [3], [0, 1, 2, 3, 4], [0, 1, 2, 3, 4, 5], [0, 1, 2, 3, 4, 5, 6], [0, 1, 2, 3, 4, 5, 6], [], [0, 1, 2, 3, 4, 5, 6, 7, 9], [0, 1, 2, 3, 4, 5, 6, 7, 8, 9, 10]] mx (by kernel_rfl) <| DK.cons rfl rfl (.p rfl (.s 1 rfl .nil) rfl (q_loadS rfl sh25 (leB rfl) rfl)) ?_
 refine DK.cons rfl rfl (.p rfl (.s 2 rfl .nil) rfl (q_loadS rfl sh29 (leB rfl) rfl)) ?_
 obtain ⟨t7621, ht7621, h⟩ := bind_s h
 refine DK.cons rfl rfl (.p rfl .nil rfl (q_call (f := 31) (A := AggA [SlcA kInt t7621.fNodes, SlcA kEdge t7621.fEdges]) (xs := []) («as» := []) rfl ca31 (law17_bank.con k  t7621 ht7621) rfl)) <| DK.cons rfl rfl (.p rfl (.k (.k .nil)) rfl (q_lit (kd := kInt) (ps := [(0, .const (.int .i64 1)), (1, .const (.int .i64 2))]) (xs := [.const (.int .i64 1), .const (.int .i64 2)]) («as» := [EqA (.int .i64 1), EqA (.int .i64 2)]) (ys := [1, 2]) rfl rfl el26 rfl gr3 rfl rfl rfl (.cons (CellsOf.one rfl) (.cons (CellsOf.one rfl) .nil)))) <| DK.cons rfl rfl (.p rfl (.s 30 rfl .nil) rfl (q_build (is := [0]) (xs := [.tmp 30]) (L := [SlcA kInt [1, 2], EqA (.slice none 0 0)]) rfl rfl z33 pl33 rfl rfl (.cons (CellsOf.one rfl) .nil) rfl)) ?_
 obtain ⟨t7622, ht7622, h⟩ := bind_s h
 refine DK.cons rfl rfl (.p rfl (.s 27 rfl (.s 28 rfl (.s 29 rfl (.s 31 rfl .nil)))) rfl (q_callI (f := 11) (A := TupA [AggA [SlcA kInt t7622.1.fNodes, SlcA kEdge t7622.1.fEdges], EqA (.int .i64 t7622.2)]) (xs := [.tmp 27, .tmp 28, .tmp 29, .tmp 31]) («as» := [AggA [SlcA kNodeType t7600.fNodes, SlcA kEdgeType t7600.fEdges], AggA [SlcA kInt [0, 0], EqA (.slice none 0 0)], AggA [SlcA kInt t7621.fNodes, SlcA kEdge t7621.fEdges], AggA [SlcA kInt [1, 2], EqA (.slice none 0 0)]]) rfl ca11 (search_Instance.con k t7600 (Graph.mk [0, 0] []) t7621 (Morphism.mk [1, 2] []) t7622 ht7622) rfl (.cons (Imp.id _) (.cons (Imp.agg (.cons (Imp.id _) (.cons (Imp.nil kEdge) .nil))) (.cons (Imp.id _) (.cons (Imp.agg (.cons (Imp.id _) (.cons (Imp.nil kInt) .nil))) .nil)))))) <| DK.cons rfl rfl (.p rfl (.s 32 rfl .nil) rfl (q_move rfl)) <| DK.cons rfl rfl (.p rfl (.s 26 rfl .nil) rfl (q_extract rfl rfl)) <| DK.cons rfl rfl (.p rfl (.s 26 rfl .nil) rfl (q_extract rfl rfl)) <| DK.nil <| CSteps.w [] rfl rfl rfl rfl .nil rfl (w_alloc rfl z29 (l := [EqA (.slice none 0 0), EqA (.slice none 0 0)]) rfl) ?_
 rintro _ _ ⟨b7623, rfl, rfl⟩
 refine CSteps.w0 [0] rfl rfl rfl (.s 7 rfl (.s 33 rfl .nil)) rfl (w_store (L := [SlcA kInt t7622.1.fNodes, SlcA kEdge t7622.1.fEdges]) rfl sh29 (CellsOf.agg _) rfl rfl (leB rfl) rfl) ?_
 rintro _ _ ⟨rfl, rfl⟩
 refine CSteps.p rfl rfl rfl (.s 34 rfl .nil) rfl (q_assign rfl) <| CSteps.nil <| QN.to (StTo.still [0] 7 rfl rfl) <| QN.weaken (env' := [(8, _), (7, _), (6, _), (5, _), (4, _), (3, _)]) (.one rfl (.one rfl (.one rfl (.one rfl (.one rfl (.one rfl (.nil _))))))) <| QN.then_ <| W.seq ?_
 refine W.jn1 (Γ := Unit) (fun (_ : Unit) (x0 : Bool) => [(0, EqA (.bool x0))]) (fun (_ : Unit) (_ : Bool) => []) h (fun _ x0 h => ?_) (fun j7632 Kj7632 h => ?_)
 ·refine QN.then_ <| W.ret ?_
  cases h
  exact QR.f1 rfl rfl (.t rfl) (.id _)
 ·refine W.region <| WL.p rfl rfl rfl (.s 4 rfl .nil) (q_move rfl) <| WL.p rfl rfl rfl (.s 35 rfl (.k .nil)) (q_int rfl rfl) <| WL.p rfl rfl rfl (.s 36 rfl .nil) (q_move rfl) ?_
  rcases bif_s h with ⟨hb7633, h⟩ | ⟨hb7633, h⟩
  ·refine WL.q (Wanted.on rfl rfl rfl hb7633) rfl rfl (.s 3 rfl .nil) (q_move rfl).o <| WL.q (Wanted.on rfl rfl rfl hb7633) rfl rfl (.k (.k .nil)) (q_lit (kd := kInt) (ps := [(0, .const (.int .i64 1)), (1, .const (.int .i64 2))]) (xs := [.const (.int .i64 1), .const (.int .i64 2)]) («as» := [EqA (.int .i64 1), EqA (.int .i64 2)]) (ys := [1, 2]) rfl rfl el26 rfl gr3 rfl rfl rfl (.cons (CellsOf.one rfl) (.cons (CellsOf.one rfl) .nil))).o <| WL.q (Wanted.on rfl rfl rfl hb7633) rfl rfl (.s 39 rfl .nil) (q_build (is := [0]) (xs := [.tmp 39]) (L := [SlcA kInt [1, 2], EqA (.slice none 0 0)]) rfl rfl z33 pl33 rfl rfl (.cons (CellsOf.one rfl) .nil) rfl).o <| WL.q (Wanted.on rfl rfl rfl hb7633) rfl rfl (.k (.k .nil)) (q_lit (kd := kInt) (ps := [(0, .const (.int .i64 2)), (1, .const (.int .i64 1))]) (xs := [.const (.int .i64 2), .const (.int .i64 1)]) («as» := [EqA (.int .i64 2), EqA (.int .i64 1)]) (ys := [2, 1]) rfl rfl el26 rfl gr3 rfl rfl rfl (.cons (CellsOf.one rfl) (.cons (CellsOf.one rfl) .nil))).o <| WL.q (Wanted.on rfl rfl rfl hb7633) rfl rfl (.s 41 rfl .nil) (q_build (is := [0]) (xs := [.tmp 41]) (L := [SlcA kInt [2, 1], EqA (.slice none 0 0)]) rfl rfl z33 pl33 rfl rfl (.cons (CellsOf.one rfl) .nil) rfl).o <| WL.q (Wanted.on rfl rfl rfl hb7633) rfl rfl (.s 40 rfl (.s 42 rfl .nil)) (QS.args (q_lit (kd := kMorphism) (ps := [(0, .tmp 40), (1, .tmp 42)]) (xs := [.tmp 40, .tmp 42]) («as» := [AggA [SlcA kInt [1, 2], SlcA kInt []], AggA [SlcA kInt [2, 1], SlcA kInt []]]) (ys := [(Morphism.mk [1, 2] []), (Morphism.mk [2, 1] [])]) rfl rfl el46 rfl gr33 rfl rfl rfl (.cons (CellsOf.agg _) (.cons (CellsOf.agg _) .nil))) (.cons (Imp.agg (.cons (Imp.id _) (.cons (Imp.nil kInt) .nil))) (.cons (Imp.agg (.cons (Imp.id _) (.cons (Imp.nil kInt) .nil))) .nil))).o ?_
   obtain ⟨t7634, ht7634, h⟩ := bind_s h
   refine WL.q (Wanted.on rfl rfl rfl hb7633) rfl rfl (.s 38 rfl (.s 43 rfl .nil)) (q_call (f := 20) (A := EqA (.bool t7634)) (xs := [.tmp 38, .tmp 43]) («as» := [SlcA kMorphism t7608.1, SlcA kMorphism ([(Morphism.mk [1, 2] []), (Morphism.mk [2, 1] [])])]) rfl ca20 (ref17_SameAll.con k t7608.1 ([(Morphism.mk [1, 2] []), (Morphism.mk [2, 1] [])]) t7634 ht7634) rfl).o <| WL.p rfl rfl rfl (.s 37 rfl (.s 44 rfl .nil)) (q_pickT rfl hb7633) <| WL.p rfl rfl rfl (.s 45 rfl .nil) (q_move rfl) ?_
   rcases bif_s h with ⟨hb7635, h⟩ | ⟨hb7635, h⟩
   ·refine WL.q (Wanted.on rfl rfl rfl hb7635) rfl rfl (.s 6 rfl .nil) (q_move rfl).o <| WL.q (Wanted.on rfl rfl rfl hb7635) rfl rfl (.s 47 rfl (.k .nil)) (q_int rfl rfl).o <| WL.p rfl rfl rfl (.s 46 rfl (.s 48 rfl .nil)) (q_pickT rfl hb7635) <| WL.p rfl rfl rfl (.s 49 rfl .nil) (q_move rfl) ?_
    rcases bif_s h with ⟨hb7636, h⟩ | ⟨hb7636, h⟩
    ·refine WL.q (Wanted.on rfl rfl rfl hb7636) rfl rfl (.s 5 rfl .nil) (q_move rfl).o <| WL.q (Wanted.on rfl rfl rfl hb7636) rfl rfl (.s 51 rfl (.k .nil)) (q_int rfl rfl).o <| WL.p rfl rfl rfl (.s 50 rfl (.s 52 rfl .nil)) (q_pickT rfl hb7636) <| WL.p rfl rfl rfl (.s 53 rfl .nil) (q_move rfl) ?_
     rcases bif_s h with ⟨hb7637, h⟩ | ⟨hb7637, h⟩
     ·refine WL.q (Wanted.on rfl rfl rfl hb7637) rfl rfl (.s 8 rfl .nil) (q_move rfl).o <| WL.q (Wanted.on rfl rfl rfl hb7637) rfl rfl (.s 55 rfl (.k .nil)) (q_int rfl rfl).o <| WL.p rfl rfl rfl (.s 54 rfl (.s 56 rfl .nil)) (q_pickT rfl hb7637) <| WL.p rfl rfl rfl (.s 57 rfl .nil) (q_move rfl) ?_
      rcases bif_s h with ⟨hb7638, h⟩ | ⟨hb7638, h⟩
      ·refine WL.q (Wanted.on rfl rfl rfl hb7638) rfl rfl (.s 7 rfl .nil) (q_field rfl fo29_0 rfl).o <| WL.q (Wanted.on rfl rfl rfl hb7638) rfl rfl (.s 59 rfl .nil) (q_load rfl sh26).o <| WL.q (Wanted.on rfl rfl rfl hb7638) rfl rfl (.k (.k .nil)) (q_lit (kd := kInt) (ps := [(0, .const (.int .i64 1)), (1, .const (.int .i64 1))]) (xs := [.const (.int .i64 1), .const (.int .i64 1)]) («as» := [EqA (.int .i64 1), EqA (.int .i64 1)]) (ys := [1, 1]) rfl rfl el26 rfl gr3 rfl rfl rfl (.cons (CellsOf.one rfl) (.cons (CellsOf.one rfl) .nil))).o ?_
       obtain ⟨t7639, ht7639, h⟩ := bind_s h
       refine WL.q (Wanted.on rfl rfl rfl hb7638) rfl rfl (.s 60 rfl (.s 61 rfl .nil)) (q_call (f := 32) (A := EqA (.bool t7639)) (xs := [.tmp 60, .tmp 61]) («as» := [SlcA kInt t7622.1.fNodes, SlcA kInt [1, 1]]) rfl ca32 (slices_Equal_int.con k t7622.1.fNodes [1, 1] t7639 ht7639) rfl).o <| WL.p rfl rfl rfl (.s 58 rfl (.s 62 rfl .nil)) (q_pickT rfl hb7638) <| WL.p rfl rfl rfl (.s 63 rfl .nil) (q_assign rfl) <| WL.nil ?_
       exact QN.weaken (.one rfl (.nil _)) (Kj7632 () t7639 h)
      ·refine WL.skip (Unwanted.on rfl rfl rfl hb7638) rfl rfl <| WL.skip (Unwanted.on rfl rfl rfl hb7638) rfl rfl <| WL.skip (Unwanted.on rfl rfl rfl hb7638) rfl rfl <| WL.skip (Unwanted.on rfl rfl rfl hb7638) rfl rfl <| WL.p rfl rfl rfl (.s 58 rfl (.k .nil)) (q_pickF rfl hb7638) <| WL.p rfl rfl rfl (.s 63 rfl .nil) (q_assign rfl) <| WL.nil ?_
       exact QN.weaken (.one rfl (.nil _)) (Kj7632 () false h)
     ·refine WL.skip (Unwanted.on rfl rfl rfl hb7637) rfl rfl <| WL.skip (Unwanted.on rfl rfl rfl hb7637) rfl rfl <| WL.p rfl rfl rfl (.s 54 rfl (.k .nil)) (q_pickF rfl hb7637) <| WL.p rfl rfl rfl (.s 57 rfl .nil) (q_move rfl) <| WL.skip (Unwanted.on rfl rfl rfl rfl) rfl rfl <| WL.skip (Unwanted.on rfl rfl rfl rfl) rfl rfl <| WL.skip (Unwanted.on rfl rfl rfl rfl) rfl rfl <| WL.skip (Unwanted.on rfl rfl rfl rfl) rfl rfl <| WL.p rfl rfl rfl (.s 58 rfl (.k .nil)) (q_pickF rfl rfl) <| WL.p rfl rfl rfl (.s 63 rfl .nil) (q_assign rfl) <| WL.nil ?_
      exact QN.weaken (.one rfl (.nil _)) (Kj7632 () false h)
    ·refine WL.skip (Unwanted.on rfl rfl rfl hb7636) rfl rfl <| WL.skip (Unwanted.on rfl rfl rfl hb7636) rfl rfl <| WL.p rfl rfl rfl (.s 50 rfl (.k .nil)) (q_pickF rfl hb7636) <| WL.p rfl rfl rfl (.s 53 rfl .nil) (q_move rfl) <| WL.skip (Unwanted.on rfl rfl rfl rfl) rfl rfl <| WL.skip (Unwanted.on rfl rfl rfl rfl) rfl rfl <| WL.p rfl rfl rfl (.s 54 rfl (.k .nil)) (q_pickF rfl rfl) <| WL.p rfl rfl rfl (.s 57 rfl .nil) (q_move rfl) <| WL.skip (Unwanted.on rfl rfl rfl rfl) rfl rfl <| WL.skip (Unwanted.on rfl rfl rfl rfl) rfl rfl <| WL.skip (Unwanted.on rfl rfl rfl rfl) rfl rfl <| WL.skip (Unwanted.on rfl rfl rfl rfl) rfl rfl <| WL.p rfl rfl rfl (.s 58 rfl (.k .nil)) (q_pickF rfl rfl) ?_
     refine WL.p rfl rfl rfl (.s 63 rfl .nil) (q_assign rfl) <| WL.nil ?_
     exact QN.weaken (.one rfl (.nil _)) (Kj7632 () false h)
   ·refine WL.skip (Unwanted.on rfl rfl rfl hb7635) rfl rfl <| WL.skip (Unwanted.on rfl rfl rfl hb7635) rfl rfl <| WL.p rfl rfl rfl (.s 46 rfl (.k .nil)) (q_pickF rfl hb7635) <| WL.p rfl rfl rfl (.s 49 rfl .nil) (q_move rfl) <| WL.skip (Unwanted.on rfl rfl rfl rfl) rfl rfl <| WL.skip (Unwanted.on rfl rfl rfl rfl) rfl rfl <| WL.p rfl rfl rfl (.s 50 rfl (.k .nil)) (q_pickF rfl rfl) <| WL.p rfl rfl rfl (.s 53 rfl .nil) (q_move rfl) <| WL.skip (Unwanted.on rfl rfl rfl rfl) rfl rfl <| WL.skip (Unwanted.on rfl rfl rfl rfl) rfl rfl <| WL.p rfl rfl rfl (.s 54 rfl (.k .nil)) (q_pickF rfl rfl) <| WL.p rfl rfl rfl (.s 57 rfl .nil) (q_move rfl) <| WL.skip (Unwanted.on rfl rfl rfl rfl) rfl rfl ?_
    refine WL.skip (Unwanted.on rfl rfl rfl rfl) rfl rfl <| WL.skip (Unwanted.on rfl rfl rfl rfl) rfl rfl <| WL.skip (Unwanted.on rfl rfl rfl rfl) rfl rfl <| WL.p rfl rfl rfl (.s 58 rfl (.k .nil)) (q_pickF rfl rfl) <| WL.p rfl rfl rfl (.s 63 rfl .nil) (q_assign rfl) <| WL.nil ?_
    exact QN.weaken (.one rfl (.nil _)) (Kj7632 () false h)
  ·refine WL.skip (Unwanted.on rfl rfl rfl hb7633) rfl rfl <| WL.skip (Unwanted.on rfl rfl rfl hb7633) rfl rfl <| WL.skip (Unwanted.on rfl rfl rfl hb7633) rfl rfl <| WL.skip (Unwanted.on rfl rfl rfl hb7633) rfl rfl <| WL.skip (Unwanted.on rfl rfl rfl hb7633) rfl rfl <| WL.skip (Unwanted.on rfl rfl rfl hb7633) rfl rfl <| WL.skip (Unwanted.on rfl rfl rfl hb7633) rfl rfl <| WL.p rfl rfl rfl (.s 37 rfl (.k .nil)) (q_pickF rfl hb7633) <| WL.p rfl rfl rfl (.s 45 rfl .nil) (q_move rfl) <| WL.skip (Unwanted.on rfl rfl rfl rfl) rfl rfl <| WL.skip (Unwanted.on rfl rfl rfl rfl) rfl rfl <| WL.p rfl rfl rfl (.s 46 rfl (.k .nil)) (q_pickF rfl rfl) <| WL.p rfl rfl rfl (.s 49 rfl .nil) (q_move rfl) ?_
   refine WL.skip (Unwanted.on rfl rfl rfl rfl) rfl rfl <| WL.skip (Unwanted.on rfl rfl rfl rfl) rfl rfl <| WL.p rfl rfl rfl (.s 50 rfl (.k .nil)) (q_pickF rfl rfl) <| WL.p rfl rfl rfl (.s 53 rfl .nil) (q_move rfl) <| WL.skip (Unwanted.on rfl rfl rfl rfl) rfl rfl <| WL.skip (Unwanted.on rfl rfl rfl rfl) rfl rfl <| WL.p rfl rfl rfl (.s 54 rfl (.k .nil)) (q_pickF rfl rfl) <| WL.p rfl rfl rfl (.s 57 rfl .nil) (q_move rfl) <| WL.skip (Unwanted.on rfl rfl rfl rfl) rfl rfl <| WL.skip (Unwanted.on rfl rfl rfl rfl) rfl rfl <| WL.skip (Unwanted.on rfl rfl rfl rfl) rfl rfl <| WL.skip (Unwanted.on rfl rfl rfl rfl) rfl rfl <| WL.p rfl rfl rfl (.s 58 rfl (.k .nil)) (q_pickF rfl rfl) ?_
   refine WL.p rfl rfl rfl (.s 63 rfl .nil) (q_assign rfl) <| WL.nil ?_
   exact QN.weaken (.one rfl (.nil _)) (Kj7632 () false h)
theorem ref02_SameInts.con (k : Nat) (a0 : (List Int)) (a1 : (List Int)) (r : Bool) (h : ref02_SameInts k a0 a1 = some r) : Con Tryz.prog 45 [] [SlcA kInt a0, SlcA kInt a1] (RA (EqA (.bool r))) := by
 unfold ref02_SameInts at h
 refine Con.of (N := 26) Tryz.func45 rfl rfl rfl fun w0_ fg_ => W.seq <| W.region <| WL.p rfl rfl rfl (.k .nil) (q_assign rfl) <| WL.nil <| QN.then_ <| W.seq <| W.seq <| W.region <| WL.p rfl rfl rfl (.s 0 rfl .nil) (q_move rfl) <| WL.p rfl rfl rfl (.s 6 rfl .nil) (q_len rfl elS26) <| WL.p rfl rfl rfl (.s 1 rfl .nil) (q_move rfl) <| WL.p rfl rfl rfl (.s 8 rfl .nil) (q_len rfl elS26) ?_
 refine WL.p rfl rfl rfl (.s 7 rfl (.s 9 rfl .nil)) (q_int rfl rfl) <| WL.nil <| QN.then_ ?_
 refine W.condP h rfl (fun hb7640 h => ?_) (fun hb7640 h => ?_)
 ·refine W.seq <| W.region <| WL.p rfl rfl rfl (.k .nil) (q_assign rfl) <| WL.nil <| QN.weaken (env' := [(4, _)]) (.one rfl (.nil _)) <| QN.then_ <| W.ret <| QR.then_ ?_
  cases h
  exact QR.f1 rfl rfl (.t rfl) (.id _)
 ·refine W.skip <| QN.then_ <| W.seq <| W.seq <| W.region <| WL.p rfl rfl rfl (.k .nil) (q_assign rfl) <| WL.nil <| QN.then_ <| W.block ?_
  refine W.loop1 (Γ := Unit) (fun (_ : Unit) (x5 : Int) => [(0, SlcA kInt a0), (1, SlcA kInt a1), (5, EqA (.int .i64 x5))]) (fun (_ : Unit) (_ : Int) => []) h () (.one rfl (.one rfl (.one rfl (.nil _)))) rfl (fun rec0 K0 next0 _ x5 h => ?_)
  unfold ref02_SameInts.b0 at h
  refine W.seq <| W.seq <| W.region <| WL.p rfl rfl rfl (.s 5 rfl .nil) (q_move rfl) <| WL.p rfl rfl rfl (.s 0 rfl .nil) (q_move rfl) <| WL.p rfl rfl rfl (.s 12 rfl .nil) (q_len rfl elS26) <| WL.p rfl rfl rfl (.s 11 rfl (.s 13 rfl .nil)) (q_int rfl rfl) <| WL.nil <| QN.then_ ?_
  refine W.condP h rfl (fun hb7659 h => ?_) (fun hb7659 h => ?_)
  ·refine W.skip <| QN.then_ <| W.seq <| W.block <| W.seq <| W.drawK [(0, false), (1, false), (2, false), (3, false), (4, false), (5, false), (6, false), (7, false), (8, false)] [] [[], [], [0, 1], [0, 1, 2], [], [], [4, 5], [4, 5, 6], [0, 1, 2, 3, 4, 5, 6, 7]] mx (by kernel_rfl) <| DK.cons rfl rfl (.p rfl (.s 0 rfl .nil) rfl (q_move rfl)) <| DK.cons rfl rfl (.p rfl (.s 5 rfl .nil) rfl (q_move rfl)) ?_
   obtain ⟨c7664, h⟩ := ite_n h
   refine DK.cons rfl rfl (.p rfl (.s 17 rfl (.s 18 rfl .nil)) rfl (q_index rfl el26 rfl c7664.1 c7664.2)) <| DK.cons rfl rfl (.p rfl (.s 19 rfl .nil) rfl (q_load rfl sh3)) <| DK.cons rfl rfl (.p rfl (.s 1 rfl .nil) rfl (q_move rfl)) <| DK.cons rfl rfl (.p rfl (.s 5 rfl .nil) rfl (q_move rfl)) ?_
   obtain ⟨c7665, h⟩ := ite_n h
   refine DK.cons rfl rfl (.p rfl (.s 21 rfl (.s 22 rfl .nil)) rfl (q_index rfl el26 rfl c7665.1 c7665.2)) <| DK.cons rfl rfl (.p rfl (.s 23 rfl .nil) rfl (q_load rfl sh3)) <| DK.cons rfl rfl (.p rfl (.s 20 rfl (.s 24 rfl .nil)) rfl (q_int rfl rfl)) <| DK.nil <| CSteps.nil <| QN.weaken (env' := [(25, _), (5, _), (1, _), (0, _)]) (.one rfl (.one rfl (.one rfl (.one rfl (.nil _))))) <| QN.then_ ?_
   refine W.condP h rfl (fun hb7666 h => ?_) (fun hb7666 h => ?_)
   ·refine W.seq <| W.region <| WL.p rfl rfl rfl (.k .nil) (q_assign rfl) <| WL.nil <| QN.then_ <| W.ret <| QR.block <| QR.then_ <| QR.then_ <| QR.block <| QR.then_ ?_
    cases h
    exact QR.f1 rfl rfl (.t rfl) (.id _)
   ·refine W.skip <| QN.block <| QN.then_ <| W.region <| WL.p rfl rfl rfl (.s 5 rfl .nil) (q_move rfl) ?_
    obtain ⟨c7667, h⟩ := ite_n h
    refine WL.p rfl rfl rfl (.s 15 rfl (.k .nil)) (q_addR rfl c7667) <| WL.p rfl rfl rfl (.s 16 rfl .nil) (q_assign rfl) <| WL.nil ?_
    exact next0 () (x5 + 1) _ h (.one rfl (.one rfl (.one rfl (.nil _))))
  ·refine W.exit <| QX.then_ <| QX.then_ <| QX.here <| QN.weaken (env' := []) (.nil _) <| QN.then_ <| W.seq <| W.region <| WL.p rfl rfl rfl (.k .nil) (q_assign rfl) <| WL.nil <| QN.then_ <| W.ret ?_
   cases h
   exact QR.f1 rfl rfl (.t rfl) (.id _)
theorem ref06_Same.con (k : Nat) (a0 : Morphism) (a1 : Morphism) (r : Bool) (h : ref06_Same k a0 a1 = some r) : Con Tryz.prog 17 [] [AggA [SlcA kInt a0.fNodes, SlcA kInt a0.fEdges], AggA [SlcA kInt a1.fNodes, SlcA kInt a1.fEdges]] (RA (EqA (.bool r))) := by
 unfold ref06_Same at h
 refine Con.of (N := 17) Tryz.func17 rfl rfl rfl fun w0_ fg_ => W.seq <| W.region <| WL.p rfl rfl rfl (.s 0 rfl .nil) (q_box rfl (CellsOf.agg _)) <| WL.p rfl rfl rfl (.s 1 rfl .nil) (q_box rfl (CellsOf.agg _)) <| WL.p rfl rfl rfl (.k .nil) (q_assign rfl) <| WL.nil <| QN.then_ <| W.seq ?_
 refine W.jn1 (Γ := Unit) (fun (_ : Unit) (x4 : Bool) => [(4, EqA (.bool x4))]) (fun (_ : Unit) (_ : Bool) => []) h (fun _ x4 h => ?_) (fun j7672 Kj7672 h => ?_)
 ·refine QN.then_ <| W.ret ?_
  cases h
  exact QR.f1 rfl rfl (.t rfl) (.id _)
 ·refine W.region <| WL.p rfl rfl rfl (.s 2 rfl .nil) (q_field rfl fo33_0 rfl) <| WL.p rfl rfl rfl (.s 5 rfl .nil) (q_load rfl sh26) <| WL.p rfl rfl rfl (.s 3 rfl .nil) (q_field rfl fo33_0 rfl) <| WL.p rfl rfl rfl (.s 7 rfl .nil) (q_load rfl sh26) ?_
  obtain ⟨t7673, ht7673, h⟩ := bind_s h
  refine WL.p rfl rfl rfl (.s 6 rfl (.s 8 rfl .nil)) (q_call (f := 45) (A := EqA (.bool t7673)) (xs := [.tmp 6, .tmp 8]) («as» := [SlcA kInt a0.fNodes, SlcA kInt a1.fNodes]) rfl ca45 (ref02_SameInts.con k a0.fNodes a1.fNodes t7673 ht7673) rfl) <| WL.p rfl rfl rfl (.s 9 rfl .nil) (q_move rfl) ?_
  rcases bif_s h with ⟨hb7674, h⟩ | ⟨hb7674, h⟩
  ·refine WL.q (Wanted.on rfl rfl rfl hb7674) rfl rfl (.s 2 rfl .nil) (q_field rfl fo33_1 rfl).o <| WL.q (Wanted.on rfl rfl rfl hb7674) rfl rfl (.s 11 rfl .nil) (q_load rfl sh26).o <| WL.q (Wanted.on rfl rfl rfl hb7674) rfl rfl (.s 3 rfl .nil) (q_field rfl fo33_1 rfl).o <| WL.q (Wanted.on rfl rfl rfl hb7674) rfl rfl (.s 13 rfl .nil) (q_load rfl sh26).o ?_
   obtain ⟨t7675, ht7675, h⟩ := bind_s h
   refine WL.q (Wanted.on rfl rfl rfl hb7674) rfl rfl (.s 12 rfl (.s 14 rfl .nil)) (q_call (f := 45) (A := EqA (.bool t7675)) (xs := [.tmp 12, .tmp 14]) («as» := [SlcA kInt a0.fEdges, SlcA kInt a1.fEdges]) rfl ca45 (ref02_SameInts.con k a0.fEdges a1.fEdges t7675 ht7675) rfl).o <| WL.p rfl rfl rfl (.s 10 rfl (.s 15 rfl .nil)) (q_pickT rfl hb7674) <| WL.p rfl rfl rfl (.s 16 rfl .nil) (q_assign rfl) <| WL.nil ?_
   exact QN.weaken (.one rfl (.nil _)) (Kj7672 () t7675 h)
  ·refine WL.skip (Unwanted.on rfl rfl rfl hb7674) rfl rfl <| WL.skip (Unwanted.on rfl rfl rfl hb7674) rfl rfl <| WL.skip (Unwanted.on rfl rfl rfl hb7674) rfl rfl <| WL.skip (Unwanted.on rfl rfl rfl hb7674) rfl rfl <| WL.skip (Unwanted.on rfl rfl rfl hb7674) rfl rfl <| WL.p rfl rfl rfl (.s 10 rfl (.k .nil)) (q_pickF rfl hb7674) <| WL.p rfl rfl rfl (.s 16 rfl .nil) (q_assign rfl) <| WL.nil ?_
   exact QN.weaken (.one rfl (.nil _)) (Kj7672 () false h)
theorem law17_SearchBrute_1.con (k : Nat) (a0 : Morphism) (a1 : Morphism) (r : Bool) (h : law17_SearchBrute_1 k a0 a1 = some r) : Con Tryz.prog 26 [] [AggA [SlcA kInt a0.fNodes, SlcA kInt a0.fEdges], PtrA [SlcA kInt a1.fNodes, SlcA kInt a1.fEdges]] (RA (EqA (.bool r))) := by
 unfold law17_SearchBrute_1 at h
 refine Con.of (N := 7) Tryz.func26 rfl rfl rfl fun w0_ fg_ => W.seq <| W.region <| WL.p rfl rfl rfl (.s 0 rfl .nil) (q_box rfl (CellsOf.agg _)) <| WL.p rfl rfl rfl (.k .nil) (q_assign rfl) <| WL.nil <| QN.then_ <| W.seq <| W.region <| WL.p rfl rfl rfl (.s 2 rfl .nil) (q_loadS rfl sh33 (leB rfl) rfl) <| WL.p rfl rfl rfl (.s 1 rfl .nil) (q_loadS rfl sh33 (leB rfl) rfl) ?_
 obtain ⟨t7676, ht7676, h⟩ := bind_s h
 refine WL.p rfl rfl rfl (.s 4 rfl (.s 5 rfl .nil)) (q_call (f := 17) (A := EqA (.bool t7676)) (xs := [.tmp 4, .tmp 5]) («as» := [AggA [SlcA kInt a0.fNodes, SlcA kInt a0.fEdges], AggA [SlcA kInt a1.fNodes, SlcA kInt a1.fEdges]]) rfl ca17 (ref06_Same.con k a0 a1 t7676 ht7676) rfl) <| WL.p rfl rfl rfl (.s 6 rfl .nil) (q_assign rfl) <| WL.nil <| QN.then_ <| W.ret ?_
 cases h
 exact QR.f1 rfl rfl (.t rfl) (.id _)
theorem slices_IndexFunc_Morphism.con (k : Nat) (a0 : (List Morphism)) (a1 : (Morphism → Option Bool)) (r : Int) (h : slices_IndexFunc_Morphism k a0 a1 = some r) : Con Tryz.prog 53 [] [SlcA kMorphism a0, FnA Tryz.prog (fun (x : Morphism) => [AggA [SlcA kInt x.fNodes, SlcA kInt x.fEdges]]) (fun (y : Bool) => EqA (.bool y)) a1] (RA (EqA (.int .i64 r))) := by
 unfold slices_IndexFunc_Morphism at h
 refine Con.of (N := 19) Tryz.func53 rfl rfl rfl fun w0_ fg_ => W.seq <| W.region <| WL.p rfl rfl rfl (.k .nil) (q_assign rfl) <| WL.nil <| QN.then_ <| W.seq <| W.seq <| W.region <| WL.p rfl rfl rfl (.s 0 rfl .nil) (q_move rfl) <| WL.p rfl rfl rfl (.s 6 rfl .nil) (q_len rfl elS46) <| WL.p rfl rfl rfl (.k .nil) (q_move rfl) <| WL.nil ?_
 refine QN.then_ <| W.block ?_
 refine W.loop1 (Γ := Unit) (fun (_ : Unit) (x8 : Int) => [(0, SlcA kMorphism a0), (1, FnA Tryz.prog (fun (x : Morphism) => [AggA [SlcA kInt x.fNodes, SlcA kInt x.fEdges]]) (fun (y : Bool) => EqA (.bool y)) a1), (7, EqA (.int .i64 (a0.length : Int))), (8, EqA (.int .i64 x8))]) (fun (_ : Unit) (_ : Int) => []) h () (.one rfl (.one rfl (.one rfl (.one rfl (.nil _))))) rfl (fun rec0 K0 next0 _ x8 h => ?_)
 unfold slices_IndexFunc_Morphism.b0 at h
 refine W.seq <| W.region <| WL.p rfl rfl rfl (.s 8 rfl (.s 7 rfl .nil)) (q_int rfl rfl) <| WL.nil <| QN.then_ <| W.seq ?_
 refine W.condP h rfl (fun hb7687 h => ?_) (fun hb7687 h => ?_)
 ·refine W.skip <| QN.then_ <| W.seq <| W.block <| W.seq <| W.region <| WL.p rfl rfl rfl (.s 8 rfl .nil) (q_move rfl) <| WL.p rfl rfl rfl (.s 10 rfl .nil) (q_assign rfl) <| WL.nil <| QN.then_ <| W.seq <| W.region <| WL.p rfl rfl rfl (.s 1 rfl .nil) (q_move rfl) ?_
  refine WL.p rfl rfl rfl (.s 0 rfl .nil) (q_move rfl) <| WL.p rfl rfl rfl (.s 5 rfl .nil) (q_move rfl) ?_
  obtain ⟨c7688, h⟩ := ite_n h
  refine WL.p rfl rfl rfl (.s 12 rfl (.s 13 rfl .nil)) (q_index rfl el46 rfl c7688.1 c7688.2) <| WL.p rfl rfl rfl (.s 14 rfl .nil) (q_loadS rfl sh33 (leB rfl) rfl) ?_
  obtain ⟨t7689, ht7689, h⟩ := bind_s h
  refine WL.p rfl rfl rfl (.s 11 rfl (.s 15 rfl .nil)) (q_callV («as» := fun (x : Morphism) => [AggA [SlcA kInt x.fNodes, SlcA kInt x.fEdges]]) (res := fun (y : Bool) => EqA (.bool y)) (x := (rd a0 x8)) (y := t7689) (xs := [.tmp 15]) rfl ht7689 rfl) <| WL.nil <| QN.weaken (env' := [(16, _), (5, _), (8, _), (7, _), (1, _), (0, _)]) (.one rfl (.one rfl (.one rfl (.one rfl (.one rfl (.one rfl (.nil _))))))) <| QN.then_ ?_
  refine W.condP h rfl (fun hb7690 h => ?_) (fun hb7690 h => ?_)
  ·refine W.seq <| W.region <| WL.p rfl rfl rfl (.s 5 rfl .nil) (q_move rfl) <| WL.p rfl rfl rfl (.s 17 rfl .nil) (q_assign rfl) <| WL.nil <| QN.weaken (env' := [(4, _)]) (.one rfl (.nil _)) <| QN.then_ <| W.ret <| QR.block <| QR.then_ <| QR.then_ <| QR.block <| QR.then_ ?_
   cases h
   exact QR.f1 rfl rfl (.t rfl) (.id _)
  ·refine W.skip <| QN.block <| QN.then_ <| W.region ?_
   obtain ⟨c7691, h⟩ := ite_n h
   refine WL.p rfl rfl rfl (.s 8 rfl (.k .nil)) (q_addR rfl c7691) <| WL.p rfl rfl rfl (.s 18 rfl .nil) (q_move rfl) <| WL.nil ?_
   exact next0 () (x8 + 1) _ h (.one rfl (.one rfl (.one rfl (.one rfl (.nil _)))))
 ·refine W.exit <| QX.then_ <| QX.then_ <| QX.here <| QN.then_ <| W.seq <| W.region <| WL.p rfl rfl rfl (.k .nil) (q_assign rfl) <| WL.nil <| QN.then_ <| W.ret ?_
  cases h
  exact QR.f1 rfl rfl (.t rfl) (.id _)
theorem slices_ContainsFunc_Morphism.con (k : Nat) (a0 : (List Morphism)) (a1 : (Morphism → Option Bool)) (r : Bool) (h : slices_ContainsFunc_Morphism k a0 a1 = some r) : Con Tryz.prog 25 [] [SlcA kMorphism a0, FnA Tryz.prog (fun (x : Morphism) => [AggA [SlcA kInt x.fNodes, SlcA kInt x.fEdges]]) (fun (y : Bool) => EqA (.bool y)) a1] (RA (EqA (.bool r))) := by
 unfold slices_ContainsFunc_Morphism at h
 refine Con.of (N := 9) Tryz.func25 rfl rfl rfl fun w0_ fg_ => W.seq <| W.region <| WL.p rfl rfl rfl (.k .nil) (q_assign rfl) <| WL.nil <| QN.then_ <| W.seq <| W.region <| WL.p rfl rfl rfl (.s 0 rfl .nil) (q_move rfl) <| WL.p rfl rfl rfl (.s 1 rfl .nil) (q_move rfl) ?_
 obtain ⟨t7692, ht7692, h⟩ := bind_s h
 refine WL.p rfl rfl rfl (.s 5 rfl (.s 6 rfl .nil)) (q_call (f := 53) (A := EqA (.int .i64 t7692)) (xs := [.tmp 5, .tmp 6]) («as» := [SlcA kMorphism a0, FnA Tryz.prog (fun (x : Morphism) => [AggA [SlcA kInt x.fNodes, SlcA kInt x.fEdges]]) (fun (y : Bool) => EqA (.bool y)) a1]) rfl ca53 (slices_IndexFunc_Morphism.con k a0 a1 t7692 ht7692) rfl) <| WL.p rfl rfl rfl (.s 7 rfl (.k .nil)) (q_int rfl rfl) <| WL.p rfl rfl rfl (.s 8 rfl .nil) (q_assign rfl) <| WL.nil <| QN.then_ <| W.ret ?_
 cases h
 exact QR.f1 rfl rfl (.t rfl) (.id _)

theorem search_Check.con (k : Nat) (a0 : Types) (a1 : Graph) (a2 : Graph) (a3 : Morphism) (a4 : Bool) (r : Int) (h : search_Check k a0 a1 a2 a3 a4 = some r) : Con Tryz.prog 21 [] [AggA [SlcA kNodeType a0.fNodes, SlcA kEdgeType a0.fEdges], AggA [SlcA kInt a1.fNodes, SlcA kEdge a1.fEdges], AggA [SlcA kInt a2.fNodes, SlcA kEdge a2.fEdges], AggA [SlcA kInt a3.fNodes, SlcA kInt a3.fEdges], EqA (.bool a4)] (RA (EqA (.int .i64 r))) := by
 unfold search_Check at h
 refine Con.of (N := 39) Tryz.func21 rfl rfl rfl fun w0_ fg_ => W.seq <| W.region <| WL.p rfl rfl rfl (.s 0 rfl .nil) (q_box rfl (CellsOf.agg _)) <| WL.p rfl rfl rfl (.s 1 rfl .nil) (q_box rfl (CellsOf.agg _)) <| WL.p rfl rfl rfl (.s 2 rfl .nil) (q_box rfl (CellsOf.agg _)) <| WL.p rfl rfl rfl (.s 3 rfl .nil) (q_box rfl (CellsOf.agg _)) <| WL.p rfl rfl rfl (.k .nil) (q_assign rfl) <| WL.nil <| QN.then_ <| W.seq <| W.seq <| W.region ?_
 refine WL.p rfl rfl rfl (.s 5 rfl .nil) (q_loadS rfl sh25 (leB rfl) rfl) <| WL.p rfl rfl rfl (.s 6 rfl .nil) (q_loadS rfl sh29 (leB rfl) rfl) <| WL.p rfl rfl rfl (.s 7 rfl .nil) (q_loadS rfl sh29 (leB rfl) rfl) ?_
 obtain ⟨t7693, ht7693, h⟩ := bind_s h
 refine WL.p rfl rfl rfl (.s 13 rfl (.s 14 rfl (.s 15 rfl .nil))) (q_call (f := 36) (A := EqA (.int .i64 t7693)) (xs := [.tmp 13, .tmp 14, .tmp 15]) («as» := [AggA [SlcA kNodeType a0.fNodes, SlcA kEdgeType a0.fEdges], AggA [SlcA kInt a1.fNodes, SlcA kEdge a1.fEdges], AggA [SlcA kInt a2.fNodes, SlcA kEdge a2.fEdges]]) rfl ca36 (search_valid.con k a0 a1 a2 t7693 ht7693) rfl) <| WL.p rfl rfl rfl (.s 16 rfl .nil) (q_assign rfl) <| WL.nil <| QN.weaken (env' := [(11, _), (8, _), (7, _), (6, _), (5, _), (4, _)]) (.one rfl (.one rfl (.one rfl (.one rfl (.one rfl (.one rfl (.nil _))))))) <| QN.then_ <| W.seq <| W.region <| WL.p rfl rfl rfl (.s 11 rfl .nil) (q_move rfl) <| WL.p rfl rfl rfl (.s 17 rfl (.k .nil)) (q_int rfl rfl) <| WL.nil <| QN.then_ ?_
 refine W.condP h rfl (fun hb7694 h => ?_) (fun hb7694 h => ?_)
 ·refine W.seq <| W.region <| WL.p rfl rfl rfl (.s 11 rfl .nil) (q_move rfl) <| WL.p rfl rfl rfl (.s 19 rfl .nil) (q_assign rfl) <| WL.nil <| QN.weaken (env' := [(10, _)]) (.one rfl (.nil _)) <| QN.then_ <| W.ret <| QR.then_ ?_
  cases h
  exact QR.f1 rfl rfl (.t rfl) (.id _)
 ·refine W.skip <| QN.then_ <| W.seq <| W.seq <| W.region <| WL.p rfl rfl rfl (.s 5 rfl .nil) (q_loadS rfl sh25 (leB rfl) rfl) <| WL.p rfl rfl rfl (.s 6 rfl .nil) (q_loadS rfl sh29 (leB rfl) rfl) <| WL.p rfl rfl rfl (.s 7 rfl .nil) (q_loadS rfl sh29 (leB rfl) rfl) <| WL.p rfl rfl rfl (.s 8 rfl .nil) (q_loadS rfl sh33 (leB rfl) rfl) ?_
  obtain ⟨t7695, ht7695, h⟩ := bind_s h
  refine WL.p rfl rfl rfl (.s 20 rfl (.s 21 rfl (.s 22 rfl (.s 23 rfl .nil)))) (q_call (f := 37) (A := EqA (.int .i64 t7695)) (xs := [.tmp 20, .tmp 21, .tmp 22, .tmp 23]) («as» := [AggA [SlcA kNodeType a0.fNodes, SlcA kEdgeType a0.fEdges], AggA [SlcA kInt a1.fNodes, SlcA kEdge a1.fEdges], AggA [SlcA kInt a2.fNodes, SlcA kEdge a2.fEdges], AggA [SlcA kInt a3.fNodes, SlcA kInt a3.fEdges]]) rfl ca37 (search_shape.con k a0 a1 a2 a3 t7695 ht7695) rfl) <| WL.p rfl rfl rfl (.s 24 rfl .nil) (q_assign rfl) <| WL.nil <| QN.weaken (env' := [(12, _), (8, _), (4, _)]) (.one rfl (.one rfl (.one rfl (.nil _)))) <| QN.then_ <| W.seq <| W.region <| WL.p rfl rfl rfl (.s 12 rfl .nil) (q_move rfl) <| WL.p rfl rfl rfl (.s 25 rfl (.k .nil)) (q_int rfl rfl) <| WL.nil <| QN.then_ ?_
  refine W.condP h rfl (fun hb7696 h => ?_) (fun hb7696 h => ?_)
  ·refine W.seq <| W.region <| WL.p rfl rfl rfl (.s 12 rfl .nil) (q_move rfl) <| WL.p rfl rfl rfl (.s 27 rfl .nil) (q_assign rfl) <| WL.nil <| QN.then_ <| W.ret <| QR.then_ ?_
   cases h
   exact QR.f1 rfl rfl (.t rfl) (.id _)
  ·refine W.skip <| QN.then_ <| W.seq <| W.seq ?_
   refine W.jn1 (Γ := Unit) (fun (_ : Unit) (x38 : Bool) => [(38, EqA (.bool x38))]) (fun (_ : Unit) (_ : Bool) => []) h (fun _ x38 h => ?_) (fun j7702 Kj7702 h => ?_)
   ·refine QN.then_ ?_
    refine W.condP h rfl (fun hb7703 h => ?_) (fun hb7703 h => ?_)
    ·refine W.seq <| W.region <| WL.p rfl rfl rfl (.k .nil) (q_assign rfl) <| WL.nil <| QN.then_ <| W.ret <| QR.then_ ?_
     cases h
     exact QR.f1 rfl rfl (.t rfl) (.id _)
    ·refine W.skip <| QN.then_ <| W.seq <| W.region <| WL.p rfl rfl rfl (.k .nil) (q_assign rfl) <| WL.nil <| QN.then_ <| W.ret ?_
     cases h
     exact QR.f1 rfl rfl (.t rfl) (.id _)
   ·refine W.region <| WL.p rfl rfl rfl (.s 4 rfl .nil) (q_move rfl) <| WL.p rfl rfl rfl (.s 28 rfl .nil) (q_move rfl) ?_
    rcases bif_s h with ⟨hb7704, h⟩ | ⟨hb7704, h⟩
    ·refine WL.q (Wanted.on rfl rfl rfl hb7704) rfl rfl (.s 8 rfl .nil) (q_field rfl fo33_0 rfl).o <| WL.q (Wanted.on rfl rfl rfl hb7704) rfl rfl (.s 30 rfl .nil) (q_load rfl sh26).o ?_
     obtain ⟨t7705, ht7705, h⟩ := bind_s h
     refine WL.q (Wanted.on rfl rfl rfl hb7704) rfl rfl (.s 31 rfl .nil) (q_call (f := 49) (A := EqA (.bool t7705)) (xs := [.tmp 31]) («as» := [SlcA kInt a3.fNodes]) rfl ca49 (search_twice.con k a3.fNodes t7705 ht7705) rfl).o <| WL.q (Wanted.on rfl rfl rfl hb7704) rfl rfl (.s 32 rfl .nil) (q_move rfl).o ?_
     rcases bif_s h with ⟨hb7706, h⟩ | ⟨hb7706, h⟩
     ·refine WL.skip (Unwanted.on rfl rfl rfl hb7706) rfl rfl <| WL.skip (Unwanted.on rfl rfl rfl hb7706) rfl rfl <| WL.skip (Unwanted.on rfl rfl rfl hb7706) rfl rfl <| WL.q (Wanted.on rfl rfl rfl hb7704) rfl rfl (.s 33 rfl (.k .nil)) (q_pickT rfl hb7706).o <| WL.p rfl rfl rfl (.s 29 rfl (.s 37 rfl .nil)) (q_pickT rfl hb7704) <| WL.nil ?_
      exact QN.weaken (.one rfl (.nil _)) (Kj7702 () true h)
     ·refine WL.q (Wanted.on rfl rfl rfl hb7706) rfl rfl (.s 8 rfl .nil) (q_field rfl fo33_1 rfl).o <| WL.q (Wanted.on rfl rfl rfl hb7706) rfl rfl (.s 34 rfl .nil) (q_load rfl sh26).o ?_
      obtain ⟨t7707, ht7707, h⟩ := bind_s h
      refine WL.q (Wanted.on rfl rfl rfl hb7706) rfl rfl (.s 35 rfl .nil) (q_call (f := 49) (A := EqA (.bool t7707)) (xs := [.tmp 35]) («as» := [SlcA kInt a3.fEdges]) rfl ca49 (search_twice.con k a3.fEdges t7707 ht7707) rfl).o <| WL.q (Wanted.on rfl rfl rfl hb7704) rfl rfl (.s 33 rfl (.s 36 rfl .nil)) (q_pickF rfl hb7706).o <| WL.p rfl rfl rfl (.s 29 rfl (.s 37 rfl .nil)) (q_pickT rfl hb7704) <| WL.nil ?_
      exact QN.weaken (.one rfl (.nil _)) (Kj7702 () t7707 h)
    ·refine WL.skip (Unwanted.on rfl rfl rfl hb7704) rfl rfl <| WL.skip (Unwanted.on rfl rfl rfl hb7704) rfl rfl <| WL.skip (Unwanted.on rfl rfl rfl hb7704) rfl rfl <| WL.skip (Unwanted.on rfl rfl rfl hb7704) rfl rfl <| WL.skip (Unwanted.und rfl rfl rfl) rfl rfl <| WL.skip (Unwanted.und rfl rfl rfl) rfl rfl <| WL.skip (Unwanted.und rfl rfl rfl) rfl rfl <| WL.skip (Unwanted.on rfl rfl rfl hb7704) rfl rfl <| WL.p rfl rfl rfl (.s 29 rfl (.k .nil)) (q_pickF rfl hb7704) <| WL.nil ?_
     exact QN.weaken (.one rfl (.nil _)) (Kj7702 () false h)
theorem law17_SearchBrute.con (k : Nat) (a0 : Drafts) (a1 : (List Int)) (a2 : Bool) (r : Bool) (h : law17_SearchBrute k a0 a1 a2 = some r) : Con Tryz.prog 7 [] [AggA [SlcA kA2Int a0.fNodes, SlcA kA2Int a0.fEdges, SlcA kU8 a0.fP.fNodes, SlcA kA3Int a0.fP.fEdges, SlcA kU8 a0.fG.fNodes, SlcA kA3Int a0.fG.fEdges], SlcA kU8 a1, EqA (.bool a2)] (RA (EqA (.bool r))) := by
 unfold law17_SearchBrute at h
 refine Con.of (N := 127) Tryz.func7 rfl rfl rfl fun w0_ fg_ => W.seq <| W.region <| WL.p rfl rfl rfl (.s 0 rfl .nil) (q_box rfl (CellsOf.agg _)) <| WL.p rfl rfl rfl (.k .nil) (q_assign rfl) <| WL.nil <| QN.then_ <| W.seq <| W.region <| WL.p rfl rfl rfl (.s 3 rfl .nil) (q_loadS rfl sh58 (leB rfl) rfl) ?_
 obtain ⟨t7708, ht7708, h⟩ := bind_s h
 refine WL.p rfl rfl rfl (.s 18 rfl .nil) (q_call (f := 23) (A := TupA [AggA [SlcA kNodeType t7708.1.fNodes, SlcA kEdgeType t7708.1.fEdges], AggA [SlcA kInt t7708.2.1.fNodes, SlcA kEdge t7708.2.1.fEdges], AggA [SlcA kInt t7708.2.2.1.fNodes, SlcA kEdge t7708.2.2.1.fEdges], EqA (.bool t7708.2.2.2)]) (xs := [.tmp 18]) («as» := [AggA [SlcA kA2Int a0.fNodes, SlcA kA2Int a0.fEdges, SlcA kU8 a0.fP.fNodes, SlcA kA3Int a0.fP.fEdges, SlcA kU8 a0.fG.fNodes, SlcA kA3Int a0.fG.fEdges]]) rfl ca23 (law17_Drafts_parts.con k a0 t7708 ht7708) rfl) <| WL.p rfl rfl rfl (.s 19 rfl .nil) (q_move rfl) <| WL.p rfl rfl rfl (.s 17 rfl .nil) (q_extract rfl rfl) <| WL.p rfl rfl rfl (.s 17 rfl .nil) (q_extract rfl rfl) <| WL.p rfl rfl rfl (.s 17 rfl .nil) (q_extract rfl rfl) <| WL.p rfl rfl rfl (.s 17 rfl .nil) (q_extract rfl rfl) <| WL.w [] rfl (Wanted.plain rfl) rfl rfl .nil (w_alloc rfl z25 (l := [EqA (.slice none 0 0), EqA (.slice none 0 0)]) rfl) ?_
 rintro _ _ ⟨b7709, rfl, rfl⟩
 refine WL.w [] rfl (Wanted.plain rfl) rfl rfl .nil (w_alloc rfl z29 (l := [EqA (.slice none 0 0), EqA (.slice none 0 0)]) rfl) ?_
 rintro _ _ ⟨b7710, rfl, rfl⟩
 refine WL.w [] rfl (Wanted.plain rfl) rfl rfl .nil (w_alloc rfl z29 (l := [EqA (.slice none 0 0), EqA (.slice none 0 0)]) rfl) ?_
 rintro _ _ ⟨b7711, rfl, rfl⟩
 refine WL.w0 [2] rfl (Wanted.plain rfl) rfl (.s 7 rfl (.s 20 rfl .nil)) (w_store (L := [SlcA kNodeType t7708.1.fNodes, SlcA kEdgeType t7708.1.fEdges]) rfl sh25 (CellsOf.agg _) rfl rfl (leB rfl) rfl) ?_
 rintro _ _ ⟨rfl, rfl⟩
 refine WL.w0 [2] rfl (Wanted.plain rfl) rfl (.s 8 rfl (.s 21 rfl .nil)) (w_store (L := [SlcA kInt t7708.2.1.fNodes, SlcA kEdge t7708.2.1.fEdges]) rfl sh29 (CellsOf.agg _) rfl rfl (leB rfl) rfl) ?_
 rintro _ _ ⟨rfl, rfl⟩
 refine WL.w0 [2] rfl (Wanted.plain rfl) rfl (.s 9 rfl (.s 22 rfl .nil)) (w_store (L := [SlcA kInt t7708.2.2.1.fNodes, SlcA kEdge t7708.2.2.1.fEdges]) rfl sh29 (CellsOf.agg _) rfl rfl (leB rfl) rfl) ?_
 rintro _ _ ⟨rfl, rfl⟩
 refine WL.p rfl rfl rfl (.s 23 rfl .nil) (q_assign rfl) <| WL.nil <| QN.to (StTo.still [2] 7 rfl rfl) <| QN.to (StTo.still [1] 8 rfl rfl) <| QN.to (StTo.still [0] 9 rfl rfl) <| QN.weaken (env' := [(10, _), (9, _), (8, _), (7, _), (2, _), (1, _)]) (.one rfl (.one rfl (.one rfl (.one rfl (.one rfl (.one rfl (.nil _))))))) <| QN.then_ <| W.seq <| W.seq ?_
 refine W.jn1 (Γ := Unit) (fun (_ : Unit) (x40 : Bool) => [(1, SlcA kU8 a1), (2, EqA (.bool a2)), (7, PtrA [SlcA kNodeType t7708.1.fNodes, SlcA kEdgeType t7708.1.fEdges]), (8, PtrA [SlcA kInt t7708.2.1.fNodes, SlcA kEdge t7708.2.1.fEdges]), (9, PtrA [SlcA kInt t7708.2.2.1.fNodes, SlcA kEdge t7708.2.2.1.fEdges]), (40, EqA (.bool x40))]) (fun (_ : Unit) (_ : Bool) => []) h (fun _ x40 h => ?_) (fun j7717 Kj7717 h => ?_)
 ·refine QN.then_ ?_
  refine W.condP h rfl (fun hb7718 h => ?_) (fun hb7718 h => ?_)
  ·refine W.seq <| W.region ?_
   obtain ⟨t7719, ht7719, h⟩ := bind_s h
   refine WL.p rfl rfl rfl .nil (q_call (f := 9) (A := EqA (.bool t7719)) (xs := []) («as» := []) rfl ca9 (law17_awake.con k  t7719 ht7719) rfl) <| WL.p rfl rfl rfl (.s 41 rfl .nil) (q_assign rfl) <| WL.nil <| QN.weaken (env' := [(6, _)]) (.one rfl (.nil _)) <| QN.then_ <| W.ret <| QR.then_ ?_
   cases h
   exact QR.f1 rfl rfl (.t rfl) (.id _)
  ·refine W.skip <| QN.then_ <| W.seq ?_
   refine W.jn0 (Γ := (Value × Value)) (fun (g7730 : (Value × Value)) => [(1, SlcA kU8 a1), (2, EqA (.bool a2)), (7, PtrA [SlcA kNodeType t7708.1.fNodes, SlcA kEdgeType t7708.1.fEdges]), (8, PtrA [SlcA kInt t7708.2.1.fNodes, SlcA kEdge t7708.2.1.fEdges]), (9, PtrA [SlcA kInt t7708.2.2.1.fNodes, SlcA kEdge t7708.2.2.1.fEdges]), (11, PtrA [HdA g7730.1, HdA g7730.2])]) (fun (g7730 : (Value × Value)) => [SlE 3 g7730.1 kInt (List.replicate ((t7708.2.1.fNodes.length : Int) : Int).toNat (0 : Int)), SlE 3 g7730.2 kInt (List.replicate ((t7708.2.1.fEdges.length : Int) : Int).toNat (0 : Int))]) h (fun g7730 h => ?_) (fun j7735 Kj7735 h => ?_)
   ·refine QN.then_ <| W.seq <| W.seq <| W.region <| WL.p rfl rfl rfl (.s 1 rfl .nil) (q_move rfl) <| WL.p rfl rfl rfl (.s 51 rfl .nil) (q_len rfl elS53) <| WL.p rfl rfl rfl (.k .nil) (q_move rfl) <| WL.nil <| QN.then_ <| W.block ?_
    refine W.loop3 (Γ := Unit) (fun (_ : Unit) (_ : (List Int)) (_ : (List Int)) (x53 : Int) => [(1, SlcA kU8 a1), (2, EqA (.bool a2)), (7, PtrA [SlcA kNodeType t7708.1.fNodes, SlcA kEdgeType t7708.1.fEdges]), (8, PtrA [SlcA kInt t7708.2.1.fNodes, SlcA kEdge t7708.2.1.fEdges]), (9, PtrA [SlcA kInt t7708.2.2.1.fNodes, SlcA kEdge t7708.2.2.1.fEdges]), (11, PtrA [HdA g7730.1, HdA g7730.2]), (52, EqA (.int .i64 (a1.length : Int))), (53, EqA (.int .i64 x53))]) (fun (_ : Unit) (x11_0 : (List Int)) (x11_1 : (List Int)) (_ : Int) => [SlE 3 g7730.1 kInt x11_0, SlE 3 g7730.2 kInt x11_1]) h () (.one rfl (.one rfl (.one rfl (.one rfl (.one rfl (.one rfl (.one rfl (.one rfl (.nil _))))))))) rfl (fun rec0 K0 next0 _ x11_0 x11_1 x53 h => ?_)
    unfold law17_SearchBrute.b0 at h
    refine W.seq <| W.region <| WL.p rfl rfl rfl (.s 53 rfl (.s 52 rfl .nil)) (q_int rfl rfl) <| WL.nil <| QN.then_ <| W.seq ?_
    refine W.condP h rfl (fun hb7890 h => ?_) (fun hb7890 h => ?_)
    ·refine W.skip <| QN.then_ <| W.seq <| W.block <| W.seq <| W.region <| WL.p rfl rfl rfl (.s 53 rfl .nil) (q_move rfl) <| WL.p rfl rfl rfl (.s 55 rfl .nil) (q_assign rfl) <| WL.nil <| QN.then_ <| W.seq <| W.region <| WL.p rfl rfl rfl (.s 12 rfl .nil) (q_move rfl) ?_
     refine WL.p rfl rfl rfl (.s 11 rfl .nil) (q_field rfl fo33_0 rfl) <| WL.p rfl rfl rfl (.s 57 rfl .nil) (q_load rfl sh26) <| WL.q (Wanted.plain rfl) rfl rfl (.s 58 rfl .nil) (q_lenO rfl elS26 (i := 0) rfl) ?_
     obtain ⟨c7891, h⟩ := ite_n h
     refine WL.p rfl rfl rfl (.s 56 rfl (.s 59 rfl .nil)) (q_subR rfl c7891) <| WL.p rfl rfl rfl (.s 60 rfl .nil) (q_assign rfl) <| WL.nil <| QN.weaken (env' := [(13, _), (12, _), (53, _), (52, _), (11, _), (9, _), (8, _), (7, _), (2, _), (1, _)]) (.one rfl (.one rfl (.one rfl (.one rfl (.one rfl (.one rfl (.one rfl (.one rfl (.one rfl (.one rfl (.nil _))))))))))) <| QN.then_ <| W.block <| W.seq <| W.region <| WL.p rfl rfl rfl (.s 13 rfl .nil) (q_move rfl) <| WL.p rfl rfl rfl (.s 62 rfl (.k .nil)) (q_int rfl rfl) <| WL.p rfl rfl rfl (.s 63 rfl .nil) (q_assign rfl) <| WL.nil <| QN.then_ ?_
     refine W.condP h rfl (fun hb7926 h => ?_) (fun hb7926 h => ?_)
     ·refine W.drawK [(0, false), (1, false), (2, false), (3, false), (4, false), (5, false), (6, false), (7, false), (8, false), (9, false), (10, false), (11, false), (12, true)] [13] [[], [0], [], [], [], [3, 4], [3, 4, 5], [3, 4, 5, 6], [], [8], [8, 9], [3, 4, 5, 6, 7, 8, 9, 10], [0, 1, 2, 3, 4, 5, 6, 7, 8, 9, 10, 11], [0, 1, 2, 3, 4, 5, 6, 7, 8, 9, 10, 11, 12]] mx (by kernel_rfl) <| DK.cons rfl rfl (.p rfl (.s 11 rfl .nil) rfl (q_field rfl fo33_0 rfl)) <| DK.cons rfl rfl (.p rfl (.s 64 rfl .nil) rfl (q_load rfl sh26)) <| DK.cons rfl rfl (.p rfl (.s 12 rfl .nil) rfl (q_move rfl)) <| DK.cons rfl rfl (.p rfl (.s 1 rfl .nil) rfl (q_move rfl)) <| DK.cons rfl rfl (.p rfl (.s 12 rfl .nil) rfl (q_move rfl)) ?_
      obtain ⟨c7933, h⟩ := ite_n h
      refine DK.cons rfl rfl (.p rfl (.s 67 rfl (.s 68 rfl .nil)) rfl (q_index rfl el53 rfl c7933.1 c7933.2)) <| DK.cons rfl rfl (.p rfl (.s 69 rfl .nil) rfl (q_load rfl sh5)) <| DK.cons rfl rfl (.p rfl (.s 70 rfl .nil) rfl (q_conv rfl cv3 cvS5)) <| DK.cons rfl rfl (.p rfl (.s 9 rfl .nil) rfl (q_field rfl fo29_0 rfl)) <| DK.cons rfl rfl (.p rfl (.s 72 rfl .nil) rfl (q_load rfl sh26)) <| DK.cons rfl rfl (.p rfl (.s 73 rfl .nil) rfl (q_len rfl elS26)) ?_
      obtain ⟨c7934, h⟩ := ite_n h
      refine DK.cons rfl rfl (.p rfl (.s 71 rfl (.s 74 rfl .nil)) rfl (q_rem rfl c7934)) ?_
      obtain ⟨c7935, h⟩ := ite_n h
      refine DK.cons rfl rfl (.o rfl (.s 65 rfl (.s 66 rfl .nil)) rfl (q_indexO rfl el26 (j := 0) rfl c7935.1 c7935.2)) <| DK.nil <| CSteps.w0 [0] rfl rfl rfl (.s 76 rfl (.s 75 rfl .nil)) rfl (w_storeEl (kd := kInt) (z := ((IntKind.i64.wrap (rd a1 x53)).tmod (t7708.2.2.1.fNodes.length : Int))) rfl sh3 (CellsOf.one rfl) rfl rfl rfl c7935.1 c7935.2 rfl rfl) ?_
      rintro _ _ ⟨rfl, rfl⟩
      refine CSteps.nil <| QN.block <| QN.block <| QN.weaken (env' := [(53, _), (52, _), (11, _), (9, _), (8, _), (7, _), (2, _), (1, _)]) (.one rfl (.one rfl (.one rfl (.one rfl (.one rfl (.one rfl (.one rfl (.one rfl (.nil _))))))))) <| QN.then_ <| W.region ?_
      obtain ⟨c7936, h⟩ := ite_n h
      refine WL.p rfl rfl rfl (.s 53 rfl (.k .nil)) (q_addR rfl c7936) <| WL.p rfl rfl rfl (.s 102 rfl .nil) (q_move rfl) <| WL.nil ?_
      exact next0 () (x11_0.set (x53 : Int).toNat ((IntKind.i64.wrap (rd a1 x53)).tmod (t7708.2.2.1.fNodes.length : Int))) x11_1 (x53 + 1) _ h (.one rfl (.one rfl (.one rfl (.one rfl (.one rfl (.one rfl (.one rfl (.one rfl (.nil _)))))))))
     ·refine W.seq ?_
      refine W.jn1 (Γ := Unit) (fun (_ : Unit) (x77 : Bool) => [(1, SlcA kU8 a1), (2, EqA (.bool a2)), (7, PtrA [SlcA kNodeType t7708.1.fNodes, SlcA kEdgeType t7708.1.fEdges]), (8, PtrA [SlcA kInt t7708.2.1.fNodes, SlcA kEdge t7708.2.1.fEdges]), (9, PtrA [SlcA kInt t7708.2.2.1.fNodes, SlcA kEdge t7708.2.2.1.fEdges]), (11, PtrA [HdA g7730.1, HdA g7730.2]), (52, EqA (.int .i64 (a1.length : Int))), (53, EqA (.int .i64 x53)), (12, EqA (.int .i64 x53)), (13, EqA (.int .i64 (x53 - (x11_0.length : Int)))), (77, EqA (.bool x77))]) (fun (_ : Unit) (_ : Bool) => [SlE 3 g7730.1 kInt x11_0, SlE 3 g7730.2 kInt x11_1]) h (fun _ x77 h => ?_) (fun j7939 Kj7939 h => ?_)
      ·refine QN.then_ ?_
       refine W.condP h rfl (fun hb7950 h => ?_) (fun hb7950 h => ?_)
       ·refine W.drawK [(0, false), (1, false), (2, false), (3, false), (4, false), (5, false), (6, false), (7, false), (8, false), (9, false), (10, false), (11, false), (12, true)] [13] [[], [0], [], [], [], [3, 4], [3, 4, 5], [3, 4, 5, 6], [], [8], [8, 9], [3, 4, 5, 6, 7, 8, 9, 10], [0, 1, 2, 3, 4, 5, 6, 7, 8, 9, 10, 11], [0, 1, 2, 3, 4, 5, 6, 7, 8, 9, 10, 11, 12]] mx (by kernel_rfl) <| DK.cons rfl rfl (.p rfl (.s 11 rfl .nil) rfl (q_field rfl fo33_1 rfl)) <| DK.cons rfl rfl (.p rfl (.s 89 rfl .nil) rfl (q_load rfl sh26)) <| DK.cons rfl rfl (.p rfl (.s 13 rfl .nil) rfl (q_move rfl)) <| DK.cons rfl rfl (.p rfl (.s 1 rfl .nil) rfl (q_move rfl)) <| DK.cons rfl rfl (.p rfl (.s 12 rfl .nil) rfl (q_move rfl)) ?_
        obtain ⟨c7957, h⟩ := ite_n h
        refine DK.cons rfl rfl (.p rfl (.s 92 rfl (.s 93 rfl .nil)) rfl (q_index rfl el53 rfl c7957.1 c7957.2)) <| DK.cons rfl rfl (.p rfl (.s 94 rfl .nil) rfl (q_load rfl sh5)) <| DK.cons rfl rfl (.p rfl (.s 95 rfl .nil) rfl (q_conv rfl cv3 cvS5)) <| DK.cons rfl rfl (.p rfl (.s 9 rfl .nil) rfl (q_field rfl fo29_1 rfl)) <| DK.cons rfl rfl (.p rfl (.s 97 rfl .nil) rfl (q_load rfl sh27)) <| DK.cons rfl rfl (.p rfl (.s 98 rfl .nil) rfl (q_len rfl elS27)) ?_
        obtain ⟨c7958, h⟩ := ite_n h
        refine DK.cons rfl rfl (.p rfl (.s 96 rfl (.s 99 rfl .nil)) rfl (q_rem rfl c7958)) ?_
        obtain ⟨c7959, h⟩ := ite_n h
        refine DK.cons rfl rfl (.o rfl (.s 90 rfl (.s 91 rfl .nil)) rfl (q_indexO rfl el26 (j := 1) rfl c7959.1 c7959.2)) <| DK.nil <| CSteps.w0 [1] rfl rfl rfl (.s 101 rfl (.s 100 rfl .nil)) rfl (w_storeEl (kd := kInt) (z := ((IntKind.i64.wrap (rd a1 x53)).tmod (t7708.2.2.1.fEdges.length : Int))) rfl sh3 (CellsOf.one rfl) rfl rfl rfl c7959.1 c7959.2 rfl rfl) ?_
        rintro _ _ ⟨rfl, rfl⟩
        refine CSteps.nil <| QN.block <| QN.block <| QN.weaken (env' := [(53, _), (52, _), (11, _), (9, _), (8, _), (7, _), (2, _), (1, _)]) (.one rfl (.one rfl (.one rfl (.one rfl (.one rfl (.one rfl (.one rfl (.one rfl (.nil _))))))))) <| QN.then_ <| W.region ?_
        obtain ⟨c7960, h⟩ := ite_n h
        refine WL.p rfl rfl rfl (.s 53 rfl (.k .nil)) (q_addR rfl c7960) <| WL.p rfl rfl rfl (.s 102 rfl .nil) (q_move rfl) <| WL.nil <| QN.order [1, 0] rfl ?_
        exact next0 () x11_0 (x11_1.set ((x53 - (x11_0.length : Int)) : Int).toNat ((IntKind.i64.wrap (rd a1 x53)).tmod (t7708.2.2.1.fEdges.length : Int))) (x53 + 1) _ h (.one rfl (.one rfl (.one rfl (.one rfl (.one rfl (.one rfl (.one rfl (.one rfl (.nil _)))))))))
       ·refine W.skip <| QN.block <| QN.block <| QN.then_ <| W.region ?_
        obtain ⟨c7961, h⟩ := ite_n h
        refine WL.p rfl rfl rfl (.s 53 rfl (.k .nil)) (q_addR rfl c7961) <| WL.p rfl rfl rfl (.s 102 rfl .nil) (q_move rfl) <| WL.nil ?_
        exact next0 () x11_0 x11_1 (x53 + 1) _ h (.one rfl (.one rfl (.one rfl (.one rfl (.one rfl (.one rfl (.one rfl (.one rfl (.nil _)))))))))
      ·refine W.region <| WL.p rfl rfl rfl (.s 13 rfl .nil) (q_move rfl) <| WL.p rfl rfl rfl (.s 11 rfl .nil) (q_field rfl fo33_1 rfl) <| WL.p rfl rfl rfl (.s 79 rfl .nil) (q_load rfl sh26) <| WL.q (Wanted.plain rfl) rfl rfl (.s 80 rfl .nil) (q_lenO rfl elS26 (i := 1) rfl) <| WL.p rfl rfl rfl (.s 78 rfl (.s 81 rfl .nil)) (q_int rfl rfl) <| WL.p rfl rfl rfl (.s 82 rfl .nil) (q_move rfl) ?_
       rcases bif_s h with ⟨hb7962, h⟩ | ⟨hb7962, h⟩
       ·refine WL.q (Wanted.on rfl rfl rfl hb7962) rfl rfl (.s 9 rfl .nil) (q_field rfl fo29_1 rfl).o <| WL.q (Wanted.on rfl rfl rfl hb7962) rfl rfl (.s 84 rfl .nil) (q_load rfl sh27).o <| WL.q (Wanted.on rfl rfl rfl hb7962) rfl rfl (.s 85 rfl .nil) (q_len rfl elS27).o <| WL.q (Wanted.on rfl rfl rfl hb7962) rfl rfl (.s 86 rfl (.k .nil)) (q_int rfl rfl).o <| WL.p rfl rfl rfl (.s 83 rfl (.s 87 rfl .nil)) (q_pickT rfl hb7962) <| WL.p rfl rfl rfl (.s 88 rfl .nil) (q_assign rfl) <| WL.nil ?_
        exact QN.weaken (.one rfl (.one rfl (.one rfl (.one rfl (.one rfl (.one rfl (.one rfl (.one rfl (.one rfl (.one rfl (.one rfl (.nil _)))))))))))) (Kj7939 () (decide ((t7708.2.2.1.fEdges.length : Int) > 0)) h)
       ·refine WL.skip (Unwanted.on rfl rfl rfl hb7962) rfl rfl <| WL.skip (Unwanted.on rfl rfl rfl hb7962) rfl rfl <| WL.skip (Unwanted.on rfl rfl rfl hb7962) rfl rfl <| WL.skip (Unwanted.on rfl rfl rfl hb7962) rfl rfl <| WL.p rfl rfl rfl (.s 83 rfl (.k .nil)) (q_pickF rfl hb7962) <| WL.p rfl rfl rfl (.s 88 rfl .nil) (q_assign rfl) <| WL.nil ?_
        exact QN.weaken (.one rfl (.one rfl (.one rfl (.one rfl (.one rfl (.one rfl (.one rfl (.one rfl (.one rfl (.one rfl (.one rfl (.nil _)))))))))))) (Kj7939 () false h)
    ·refine W.exit <| QX.then_ <| QX.then_ <| QX.here <| QN.then_ <| W.seq <| W.region <| WL.p rfl rfl rfl (.s 7 rfl .nil) (q_loadS rfl sh25 (leB rfl) rfl) <| WL.p rfl rfl rfl (.s 8 rfl .nil) (q_loadS rfl sh29 (leB rfl) rfl) <| WL.p rfl rfl rfl (.s 9 rfl .nil) (q_loadS rfl sh29 (leB rfl) rfl) <| WL.p rfl rfl rfl (.s 2 rfl .nil) (q_move rfl) ?_
     obtain ⟨t7963, ht7963, h⟩ := bind_s h
     refine WL.p rfl rfl rfl (.s 104 rfl (.s 105 rfl (.s 106 rfl (.s 107 rfl .nil)))) (q_call (f := 24) (A := TupA [SlcA kMorphism t7963.1, EqA (.int .i64 t7963.2)]) (xs := [.tmp 104, .tmp 105, .tmp 106, .tmp 107]) («as» := [AggA [SlcA kNodeType t7708.1.fNodes, SlcA kEdgeType t7708.1.fEdges], AggA [SlcA kInt t7708.2.1.fNodes, SlcA kEdge t7708.2.1.fEdges], AggA [SlcA kInt t7708.2.2.1.fNodes, SlcA kEdge t7708.2.2.1.fEdges], EqA (.bool a2)]) rfl ca24 (search_All.con k t7708.1 t7708.2.1 t7708.2.2.1 a2 t7963 ht7963) rfl) <| WL.p rfl rfl rfl (.s 108 rfl .nil) (q_move rfl) <| WL.p rfl rfl rfl (.s 103 rfl .nil) (q_extract rfl rfl) <| WL.p rfl rfl rfl (.s 103 rfl .nil) (q_extract rfl rfl) <| WL.p rfl rfl rfl (.s 109 rfl .nil) (q_assign rfl) <| WL.p rfl rfl rfl (.s 110 rfl .nil) (q_assign rfl) <| WL.nil <| QN.weaken (env' := [(15, _), (14, _), (11, _), (9, _), (8, _), (7, _), (2, _)]) (.one rfl (.one rfl (.one rfl (.one rfl (.one rfl (.one rfl (.one rfl (.nil _)))))))) <| QN.then_ <| W.seq <| W.seq <| W.region <| WL.p rfl rfl rfl (.s 15 rfl .nil) (q_move rfl) ?_
     refine WL.p rfl rfl rfl (.s 111 rfl (.k .nil)) (q_int rfl rfl) <| WL.nil <| QN.then_ ?_
     refine W.condP h rfl (fun hb7964 h => ?_) (fun hb7964 h => ?_)
     ·refine W.seq <| W.region <| WL.p rfl rfl rfl (.s 15 rfl .nil) (q_move rfl) <| WL.p rfl rfl rfl (.s 113 rfl (.k .nil)) (q_int rfl rfl) <| WL.p rfl rfl rfl (.s 114 rfl .nil) (q_assign rfl) <| WL.nil <| QN.weaken (env' := [(6, _)]) (.one rfl (.nil _)) <| QN.then_ <| W.ret <| QR.then_ ?_
      cases h
      exact QR.f1 rfl rfl (.t rfl) (.id _)
     ·refine W.skip <| QN.then_ <| W.seq <| W.region <| WL.p rfl rfl rfl (.s 14 rfl .nil) (q_move rfl) <| WL.to (StTo.ptrFreeze [0] 11 0 rfl rfl rfl) <| WL.to (StTo.ptrFreeze [0] 11 1 rfl rfl rfl) <| WL.p rfl rfl rfl (.s 11 rfl .nil) (q_makeFunc (xs := [.tmp 11]) (L := [PtrA [SlcA kInt x11_0, SlcA kInt x11_1]]) («as» := fun (x : Morphism) => [AggA [SlcA kInt x.fNodes, SlcA kInt x.fEdges]]) (res := fun (y : Bool) => EqA (.bool y)) (p := (fun x => law17_SearchBrute_1 k x (Morphism.mk x11_0 x11_1))) rfl ca26 rfl (fun x y hp => (law17_SearchBrute_1.con k x (Morphism.mk x11_0 x11_1) y hp))) ?_
      obtain ⟨t7965, ht7965, h⟩ := bind_s h
      refine WL.p rfl rfl rfl (.s 115 rfl (.s 116 rfl .nil)) (q_call (f := 25) (A := EqA (.bool t7965)) (xs := [.tmp 115, .tmp 116]) («as» := [SlcA kMorphism t7963.1, FnA Tryz.prog (fun (x : Morphism) => [AggA [SlcA kInt x.fNodes, SlcA kInt x.fEdges]]) (fun (y : Bool) => EqA (.bool y)) (fun x => law17_SearchBrute_1 k x (Morphism.mk x11_0 x11_1))]) rfl ca25 (slices_ContainsFunc_Morphism.con k t7963.1 (fun x => law17_SearchBrute_1 k x (Morphism.mk x11_0 x11_1)) t7965 ht7965) rfl) <| WL.p rfl rfl rfl (.s 117 rfl .nil) (q_assign rfl) <| WL.nil <| QN.weaken (env' := [(16, _), (11, _), (9, _), (8, _), (7, _), (2, _)]) (.one rfl (.one rfl (.one rfl (.one rfl (.one rfl (.one rfl (.nil _))))))) <| QN.then_ <| W.seq <| W.region <| WL.p rfl rfl rfl (.s 16 rfl .nil) (q_move rfl) <| WL.p rfl rfl rfl (.s 7 rfl .nil) (q_loadS rfl sh25 (leB rfl) rfl) <| WL.p rfl rfl rfl (.s 8 rfl .nil) (q_loadS rfl sh29 (leB rfl) rfl) <| WL.p rfl rfl rfl (.s 9 rfl .nil) (q_loadS rfl sh29 (leB rfl) rfl) <| WL.p rfl rfl rfl (.s 11 rfl .nil) (q_loadS rfl sh33 (leB rfl) rfl) <| WL.p rfl rfl rfl (.s 2 rfl .nil) (q_move rfl) ?_
      obtain ⟨t7966, ht7966, h⟩ := bind_s h
      refine WL.p rfl rfl rfl (.s 119 rfl (.s 120 rfl (.s 121 rfl (.s 122 rfl (.s 123 rfl .nil))))) (q_call (f := 21) (A := EqA (.int .i64 t7966)) (xs := [.tmp 119, .tmp 120, .tmp 121, .tmp 122, .tmp 123]) («as» := [AggA [SlcA kNodeType t7708.1.fNodes, SlcA kEdgeType t7708.1.fEdges], AggA [SlcA kInt t7708.2.1.fNodes, SlcA kEdge t7708.2.1.fEdges], AggA [SlcA kInt t7708.2.2.1.fNodes, SlcA kEdge t7708.2.2.1.fEdges], AggA [SlcA kInt x11_0, SlcA kInt x11_1], EqA (.bool a2)]) rfl ca21 (search_Check.con k t7708.1 t7708.2.1 t7708.2.2.1 (Morphism.mk x11_0 x11_1) a2 t7966 ht7966) rfl) <| WL.p rfl rfl rfl (.s 124 rfl (.k .nil)) (q_int rfl rfl) <| WL.p rfl rfl rfl (.s 118 rfl (.s 125 rfl .nil)) (q_beq rfl isb4) <| WL.p rfl rfl rfl (.s 126 rfl .nil) (q_assign rfl) <| WL.nil <| QN.weaken (env' := [(6, _)]) (.one rfl (.nil _)) <| QN.then_ <| W.ret ?_
      cases h
      exact QR.f1 rfl rfl (.t rfl) (.id _)
   ·refine W.drawKT [(0, false), (1, false), (2, false), (4, false), (5, false), (6, false)] [3, 7, 8, 9, 10] [3, 7, 8, 9] 5 [[], [0], [0, 1], [0, 1, 2], [], [4], [4, 5], [4, 5, 6], [0, 1, 2, 3, 4, 5, 6, 7], [], [0, 1, 2, 3, 4, 5, 6, 7, 8, 9]] mx (by kernel_rfl) <| DKT.cons rfl rfl (.p rfl (.s 8 rfl .nil) rfl (q_field rfl fo29_0 rfl)) <| DKT.cons rfl rfl (.p rfl (.s 42 rfl .nil) rfl (q_load rfl sh26)) <| DKT.cons rfl rfl (.p rfl (.s 43 rfl .nil) rfl (q_len rfl elS26)) ?_
    obtain ⟨c7967, h⟩ := ite_n h
    refine DKT.cons rfl rfl (.p rfl (.s 8 rfl .nil) rfl (q_field rfl fo29_1 rfl)) <| DKT.cons rfl rfl (.p rfl (.s 46 rfl .nil) rfl (q_load rfl sh27)) <| DKT.cons rfl rfl (.p rfl (.s 47 rfl .nil) rfl (q_len rfl elS27)) ?_
    obtain ⟨c7969, h⟩ := ite_n h
    refine DKT.nil <| CT.step ?_
    refine CTc.yes rfl ?_ ?_
    ·refine CStep1.w [] (fun _ => rfl) rfl rfl rfl rfl (.s 44 rfl (.s 44 rfl .nil)) rfl (w_make (kd := kInt) (z := (0 : Int)) rfl el26 rfl gr3 z3 rfl c7967.1 c7967.2) ?_
     rintro _ _ ⟨v7968, rfl, rfl⟩
     refine CT.list (l' := [7, 8, 9, 10]) rfl <| CT.step ?_
     refine CTc.yes rfl ?_ ?_
     ·refine CStep1.w [] (fun _ => rfl) rfl rfl rfl rfl (.s 48 rfl (.s 48 rfl .nil)) rfl (w_make (kd := kInt) (z := (0 : Int)) rfl el26 rfl gr3 z3 rfl c7969.1 c7969.2) ?_
      rintro _ _ ⟨v7970, rfl, rfl⟩
      refine CT.list (l' := [8, 9, 10]) rfl <| CT.step ?_
      refine CTc.yes rfl ?_ ?_
      ·refine CStep1.p rfl rfl rfl (.s 45 rfl (.s 49 rfl .nil)) rfl (q_build (is := [0, 1]) (xs := [.tmp 45, .tmp 49]) (L := [HdA v7968, HdA v7970]) rfl rfl z33 pl33 rfl rfl (.cons (CellsOf.one rfl) (.cons (CellsOf.one rfl) .nil)) rfl) <| CT.list (l' := [9, 10]) rfl <| CT.step ?_
       refine CTc.yes rfl ?_ ?_
       ·refine CStep1.w [] (fun _ => rfl) rfl rfl rfl rfl .nil rfl (w_alloc rfl z33 (l := [EqA (.slice none 0 0), EqA (.slice none 0 0)]) rfl) ?_
        rintro _ _ ⟨b7971, rfl, rfl⟩
        refine CT.list (l' := [10]) rfl <| CT.step ?_
        refine CTc.yes rfl ?_ ?_
        ·refine CStep1.w0 [0] (fun h => absurd h (by decide)) rfl rfl rfl (.s 11 rfl (.s 50 rfl .nil)) rfl (w_store (L := [HdA v7968, HdA v7970]) rfl sh33 (CellsOf.agg _) rfl rfl (leB rfl) rfl) ?_
         rintro _ _ ⟨rfl, rfl⟩
         refine CT.list (l' := []) rfl <| CT.nil <| QN.to (StTo.still [0] 11 rfl rfl) <| QN.order [1, 0] rfl ?_
         exact QN.weaken (.one rfl (.one rfl (.one rfl (.one rfl (.one rfl (.one rfl (.nil _))))))) (Kj7735 (v7968, v7970) h)
        exact CTc.end
       refine CTc.no rfl ?_
       exact CTc.end
      refine CTc.yes rfl ?_ ?_
      ·refine CStep1.w [] (fun _ => rfl) rfl rfl rfl rfl .nil rfl (w_alloc rfl z33 (l := [EqA (.slice none 0 0), EqA (.slice none 0 0)]) rfl) ?_
       rintro _ _ ⟨b7971, rfl, rfl⟩
       refine CT.list (l' := [8, 10]) rfl <| CT.step ?_
       refine CTc.yes rfl ?_ ?_
       ·refine CStep1.p rfl rfl rfl (.s 45 rfl (.s 49 rfl .nil)) rfl (q_build (is := [0, 1]) (xs := [.tmp 45, .tmp 49]) (L := [HdA v7968, HdA v7970]) rfl rfl z33 pl33 rfl rfl (.cons (CellsOf.one rfl) (.cons (CellsOf.one rfl) .nil)) rfl) <| CT.list (l' := [10]) rfl <| CT.step ?_
        refine CTc.yes rfl ?_ ?_
        ·refine CStep1.w0 [0] (fun h => absurd h (by decide)) rfl rfl rfl (.s 11 rfl (.s 50 rfl .nil)) rfl (w_store (L := [HdA v7968, HdA v7970]) rfl sh33 (CellsOf.agg _) rfl rfl (leB rfl) rfl) ?_
         rintro _ _ ⟨rfl, rfl⟩
         refine CT.list (l' := []) rfl <| CT.nil <| QN.to (StTo.still [0] 11 rfl rfl) <| QN.order [1, 0] rfl ?_
         exact QN.weaken (.one rfl (.one rfl (.one rfl (.one rfl (.one rfl (.one rfl (.nil _))))))) (Kj7735 (v7968, v7970) h)
        exact CTc.end
       refine CTc.no rfl ?_
       exact CTc.end
      refine CTc.no rfl ?_
      exact CTc.end
     refine CTc.no rfl ?_
     refine CTc.yes rfl ?_ ?_
     ·refine CStep1.w [] (fun _ => rfl) rfl rfl rfl rfl .nil rfl (w_alloc rfl z33 (l := [EqA (.slice none 0 0), EqA (.slice none 0 0)]) rfl) ?_
      rintro _ _ ⟨b7971, rfl, rfl⟩
      refine CT.list (l' := [7, 8, 10]) rfl <| CT.step ?_
      refine CTc.yes rfl ?_ ?_
      ·refine CStep1.w [] (fun _ => rfl) rfl rfl rfl rfl (.s 48 rfl (.s 48 rfl .nil)) rfl (w_make (kd := kInt) (z := (0 : Int)) rfl el26 rfl gr3 z3 rfl c7969.1 c7969.2) ?_
       rintro _ _ ⟨v7970, rfl, rfl⟩
       refine CT.list (l' := [8, 10]) rfl <| CT.step ?_
       refine CTc.yes rfl ?_ ?_
       ·refine CStep1.p rfl rfl rfl (.s 45 rfl (.s 49 rfl .nil)) rfl (q_build (is := [0, 1]) (xs := [.tmp 45, .tmp 49]) (L := [HdA v7968, HdA v7970]) rfl rfl z33 pl33 rfl rfl (.cons (CellsOf.one rfl) (.cons (CellsOf.one rfl) .nil)) rfl) <| CT.list (l' := [10]) rfl <| CT.step ?_
        refine CTc.yes rfl ?_ ?_
        ·refine CStep1.w0 [1] (fun h => absurd h (by decide)) rfl rfl rfl (.s 11 rfl (.s 50 rfl .nil)) rfl (w_store (L := [HdA v7968, HdA v7970]) rfl sh33 (CellsOf.agg _) rfl rfl (leB rfl) rfl) ?_
         rintro _ _ ⟨rfl, rfl⟩
         refine CT.list (l' := []) rfl <| CT.nil <| QN.to (StTo.still [0] 11 rfl rfl) <| QN.order [1, 0] rfl ?_
         exact QN.weaken (.one rfl (.one rfl (.one rfl (.one rfl (.one rfl (.one rfl (.nil _))))))) (Kj7735 (v7968, v7970) h)
        exact CTc.end
       refine CTc.no rfl ?_
       exact CTc.end
      refine CTc.no rfl <| CTc.no rfl ?_
      exact CTc.end
     refine CTc.no rfl ?_
     exact CTc.end
    refine CTc.yes rfl ?_ ?_
    ·refine CStep1.w [] (fun _ => rfl) rfl rfl rfl rfl (.s 48 rfl (.s 48 rfl .nil)) rfl (w_make (kd := kInt) (z := (0 : Int)) rfl el26 rfl gr3 z3 rfl c7969.1 c7969.2) ?_
     rintro _ _ ⟨v7970, rfl, rfl⟩
     refine CT.list (l' := [3, 8, 9, 10]) rfl <| CT.step ?_
     refine CTc.yes rfl ?_ ?_
     ·refine CStep1.w [] (fun _ => rfl) rfl rfl rfl rfl (.s 44 rfl (.s 44 rfl .nil)) rfl (w_make (kd := kInt) (z := (0 : Int)) rfl el26 rfl gr3 z3 rfl c7967.1 c7967.2) ?_
      rintro _ _ ⟨v7968, rfl, rfl⟩
      refine CT.list (l' := [8, 9, 10]) rfl <| CT.step ?_
      refine CTc.yes rfl ?_ ?_
      ·refine CStep1.p rfl rfl rfl (.s 45 rfl (.s 49 rfl .nil)) rfl (q_build (is := [0, 1]) (xs := [.tmp 45, .tmp 49]) (L := [HdA v7968, HdA v7970]) rfl rfl z33 pl33 rfl rfl (.cons (CellsOf.one rfl) (.cons (CellsOf.one rfl) .nil)) rfl) <| CT.list (l' := [9, 10]) rfl <| CT.step ?_
       refine CTc.yes rfl ?_ ?_
       ·refine CStep1.w [] (fun _ => rfl) rfl rfl rfl rfl .nil rfl (w_alloc rfl z33 (l := [EqA (.slice none 0 0), EqA (.slice none 0 0)]) rfl) ?_
        rintro _ _ ⟨b7971, rfl, rfl⟩
        refine CT.list (l' := [10]) rfl <| CT.step ?_
        refine CTc.yes rfl ?_ ?_
        ·refine CStep1.w0 [0] (fun h => absurd h (by decide)) rfl rfl rfl (.s 11 rfl (.s 50 rfl .nil)) rfl (w_store (L := [HdA v7968, HdA v7970]) rfl sh33 (CellsOf.agg _) rfl rfl (leB rfl) rfl) ?_
         rintro _ _ ⟨rfl, rfl⟩
         refine CT.list (l' := []) rfl <| CT.nil <| QN.to (StTo.still [0] 11 rfl rfl) ?_
         exact QN.weaken (.one rfl (.one rfl (.one rfl (.one rfl (.one rfl (.one rfl (.nil _))))))) (Kj7735 (v7968, v7970) h)
        exact CTc.end
       refine CTc.no rfl ?_
       exact CTc.end
      refine CTc.yes rfl ?_ ?_
      ·refine CStep1.w [] (fun _ => rfl) rfl rfl rfl rfl .nil rfl (w_alloc rfl z33 (l := [EqA (.slice none 0 0), EqA (.slice none 0 0)]) rfl) ?_
       rintro _ _ ⟨b7971, rfl, rfl⟩
       refine CT.list (l' := [8, 10]) rfl <| CT.step ?_
       refine CTc.yes rfl ?_ ?_
       ·refine CStep1.p rfl rfl rfl (.s 45 rfl (.s 49 rfl .nil)) rfl (q_build (is := [0, 1]) (xs := [.tmp 45, .tmp 49]) (L := [HdA v7968, HdA v7970]) rfl rfl z33 pl33 rfl rfl (.cons (CellsOf.one rfl) (.cons (CellsOf.one rfl) .nil)) rfl) <| CT.list (l' := [10]) rfl <| CT.step ?_
        refine CTc.yes rfl ?_ ?_
        ·refine CStep1.w0 [0] (fun h => absurd h (by decide)) rfl rfl rfl (.s 11 rfl (.s 50 rfl .nil)) rfl (w_store (L := [HdA v7968, HdA v7970]) rfl sh33 (CellsOf.agg _) rfl rfl (leB rfl) rfl) ?_
         rintro _ _ ⟨rfl, rfl⟩
         refine CT.list (l' := []) rfl <| CT.nil <| QN.to (StTo.still [0] 11 rfl rfl) ?_
         exact QN.weaken (.one rfl (.one rfl (.one rfl (.one rfl (.one rfl (.one rfl (.nil _))))))) (Kj7735 (v7968, v7970) h)
        exact CTc.end
       refine CTc.no rfl ?_
       exact CTc.end
      refine CTc.no rfl ?_
      exact CTc.end
     refine CTc.no rfl ?_
     refine CTc.yes rfl ?_ ?_
     ·refine CStep1.w [] (fun _ => rfl) rfl rfl rfl rfl .nil rfl (w_alloc rfl z33 (l := [EqA (.slice none 0 0), EqA (.slice none 0 0)]) rfl) ?_
      rintro _ _ ⟨b7971, rfl, rfl⟩
      refine CT.list (l' := [3, 8, 10]) rfl <| CT.step ?_
      refine CTc.yes rfl ?_ ?_
      ·refine CStep1.w [] (fun _ => rfl) rfl rfl rfl rfl (.s 44 rfl (.s 44 rfl .nil)) rfl (w_make (kd := kInt) (z := (0 : Int)) rfl el26 rfl gr3 z3 rfl c7967.1 c7967.2) ?_
       rintro _ _ ⟨v7968, rfl, rfl⟩
       refine CT.list (l' := [8, 10]) rfl <| CT.step ?_
       refine CTc.yes rfl ?_ ?_
       ·refine CStep1.p rfl rfl rfl (.s 45 rfl (.s 49 rfl .nil)) rfl (q_build (is := [0, 1]) (xs := [.tmp 45, .tmp 49]) (L := [HdA v7968, HdA v7970]) rfl rfl z33 pl33 rfl rfl (.cons (CellsOf.one rfl) (.cons (CellsOf.one rfl) .nil)) rfl) <| CT.list (l' := [10]) rfl <| CT.step ?_
        refine CTc.yes rfl ?_ ?_
        ·refine CStep1.w0 [1] (fun h => absurd h (by decide)) rfl rfl rfl (.s 11 rfl (.s 50 rfl .nil)) rfl (w_store (L := [HdA v7968, HdA v7970]) rfl sh33 (CellsOf.agg _) rfl rfl (leB rfl) rfl) ?_
         rintro _ _ ⟨rfl, rfl⟩
         refine CT.list (l' := []) rfl <| CT.nil <| QN.to (StTo.still [0] 11 rfl rfl) ?_
         exact QN.weaken (.one rfl (.one rfl (.one rfl (.one rfl (.one rfl (.one rfl (.nil _))))))) (Kj7735 (v7968, v7970) h)
        exact CTc.end
       refine CTc.no rfl ?_
       exact CTc.end
      refine CTc.no rfl <| CTc.no rfl ?_
      exact CTc.end
     refine CTc.no rfl ?_
     exact CTc.end
    refine CTc.no rfl ?_
    refine CTc.yes rfl ?_ ?_
    ·refine CStep1.w [] (fun _ => rfl) rfl rfl rfl rfl .nil rfl (w_alloc rfl z33 (l := [EqA (.slice none 0 0), EqA (.slice none 0 0)]) rfl) ?_
     rintro _ _ ⟨b7971, rfl, rfl⟩
     refine CT.list (l' := [3, 7, 8, 10]) rfl <| CT.step ?_
     refine CTc.yes rfl ?_ ?_
     ·refine CStep1.w [] (fun _ => rfl) rfl rfl rfl rfl (.s 44 rfl (.s 44 rfl .nil)) rfl (w_make (kd := kInt) (z := (0 : Int)) rfl el26 rfl gr3 z3 rfl c7967.1 c7967.2) ?_
      rintro _ _ ⟨v7968, rfl, rfl⟩
      refine CT.list (l' := [7, 8, 10]) rfl <| CT.step ?_
      refine CTc.yes rfl ?_ ?_
      ·refine CStep1.w [] (fun _ => rfl) rfl rfl rfl rfl (.s 48 rfl (.s 48 rfl .nil)) rfl (w_make (kd := kInt) (z := (0 : Int)) rfl el26 rfl gr3 z3 rfl c7969.1 c7969.2) ?_
       rintro _ _ ⟨v7970, rfl, rfl⟩
       refine CT.list (l' := [8, 10]) rfl <| CT.step ?_
       refine CTc.yes rfl ?_ ?_
       ·refine CStep1.p rfl rfl rfl (.s 45 rfl (.s 49 rfl .nil)) rfl (q_build (is := [0, 1]) (xs := [.tmp 45, .tmp 49]) (L := [HdA v7968, HdA v7970]) rfl rfl z33 pl33 rfl rfl (.cons (CellsOf.one rfl) (.cons (CellsOf.one rfl) .nil)) rfl) <| CT.list (l' := [10]) rfl <| CT.step ?_
        refine CTc.yes rfl ?_ ?_
        ·refine CStep1.w0 [2] (fun h => absurd h (by decide)) rfl rfl rfl (.s 11 rfl (.s 50 rfl .nil)) rfl (w_store (L := [HdA v7968, HdA v7970]) rfl sh33 (CellsOf.agg _) rfl rfl (leB rfl) rfl) ?_
         rintro _ _ ⟨rfl, rfl⟩
         refine CT.list (l' := []) rfl <| CT.nil <| QN.to (StTo.still [0] 11 rfl rfl) <| QN.order [1, 0] rfl ?_
         exact QN.weaken (.one rfl (.one rfl (.one rfl (.one rfl (.one rfl (.one rfl (.nil _))))))) (Kj7735 (v7968, v7970) h)
        exact CTc.end
       refine CTc.no rfl ?_
       exact CTc.end
      refine CTc.no rfl <| CTc.no rfl ?_
      exact CTc.end
     refine CTc.yes rfl ?_ ?_
     ·refine CStep1.w [] (fun _ => rfl) rfl rfl rfl rfl (.s 48 rfl (.s 48 rfl .nil)) rfl (w_make (kd := kInt) (z := (0 : Int)) rfl el26 rfl gr3 z3 rfl c7969.1 c7969.2) ?_
      rintro _ _ ⟨v7970, rfl, rfl⟩
      refine CT.list (l' := [3, 8, 10]) rfl <| CT.step ?_
      refine CTc.yes rfl ?_ ?_
      ·refine CStep1.w [] (fun _ => rfl) rfl rfl rfl rfl (.s 44 rfl (.s 44 rfl .nil)) rfl (w_make (kd := kInt) (z := (0 : Int)) rfl el26 rfl gr3 z3 rfl c7967.1 c7967.2) ?_
       rintro _ _ ⟨v7968, rfl, rfl⟩
       refine CT.list (l' := [8, 10]) rfl <| CT.step ?_
       refine CTc.yes rfl ?_ ?_
       ·refine CStep1.p rfl rfl rfl (.s 45 rfl (.s 49 rfl .nil)) rfl (q_build (is := [0, 1]) (xs := [.tmp 45, .tmp 49]) (L := [HdA v7968, HdA v7970]) rfl rfl z33 pl33 rfl rfl (.cons (CellsOf.one rfl) (.cons (CellsOf.one rfl) .nil)) rfl) <| CT.list (l' := [10]) rfl <| CT.step ?_
        refine CTc.yes rfl ?_ ?_
        ·refine CStep1.w0 [2] (fun h => absurd h (by decide)) rfl rfl rfl (.s 11 rfl (.s 50 rfl .nil)) rfl (w_store (L := [HdA v7968, HdA v7970]) rfl sh33 (CellsOf.agg _) rfl rfl (leB rfl) rfl) ?_
         rintro _ _ ⟨rfl, rfl⟩
         refine CT.list (l' := []) rfl <| CT.nil <| QN.to (StTo.still [0] 11 rfl rfl) ?_
         exact QN.weaken (.one rfl (.one rfl (.one rfl (.one rfl (.one rfl (.one rfl (.nil _))))))) (Kj7735 (v7968, v7970) h)
        exact CTc.end
       refine CTc.no rfl ?_
       exact CTc.end
      refine CTc.no rfl <| CTc.no rfl ?_
      exact CTc.end
     refine CTc.no rfl <| CTc.no rfl ?_
     exact CTc.end
    refine CTc.no rfl ?_
    exact CTc.end
 ·refine W.region ?_
  obtain ⟨t7972, ht7972, h⟩ := bind_s h
  refine WL.p rfl rfl rfl .nil (q_call (f := 9) (A := EqA (.bool t7972)) (xs := []) («as» := []) rfl ca9 (law17_awake.con k  t7972 ht7972) rfl) <| WL.p rfl rfl rfl (.s 24 rfl .nil) (q_not rfl) <| WL.p rfl rfl rfl (.s 25 rfl .nil) (q_move rfl) ?_
  rcases bif_s h with ⟨hb7973, h⟩ | ⟨hb7973, h⟩
  ·refine WL.skip (Unwanted.on rfl rfl rfl hb7973) rfl rfl <| WL.skip (Unwanted.on rfl rfl rfl hb7973) rfl rfl <| WL.p rfl rfl rfl (.s 26 rfl (.k .nil)) (q_pickT rfl hb7973) <| WL.p rfl rfl rfl (.s 29 rfl .nil) (q_move rfl) <| WL.skip (Unwanted.on rfl rfl rfl rfl) rfl rfl <| WL.skip (Unwanted.on rfl rfl rfl rfl) rfl rfl <| WL.skip (Unwanted.on rfl rfl rfl rfl) rfl rfl <| WL.skip (Unwanted.on rfl rfl rfl rfl) rfl rfl <| WL.p rfl rfl rfl (.s 30 rfl (.k .nil)) (q_pickT rfl rfl) <| WL.p rfl rfl rfl (.s 35 rfl .nil) (q_move rfl) <| WL.skip (Unwanted.on rfl rfl rfl rfl) rfl rfl <| WL.skip (Unwanted.on rfl rfl rfl rfl) rfl rfl <| WL.skip (Unwanted.on rfl rfl rfl rfl) rfl rfl ?_
   refine WL.p rfl rfl rfl (.s 36 rfl (.k .nil)) (q_pickT rfl rfl) <| WL.nil ?_
   exact QN.weaken (.one rfl (.one rfl (.one rfl (.one rfl (.one rfl (.one rfl (.nil _))))))) (Kj7717 () true h)
  ·refine WL.q (Wanted.on rfl rfl rfl hb7973) rfl rfl (.s 10 rfl .nil) (q_move rfl).o <| WL.q (Wanted.on rfl rfl rfl hb7973) rfl rfl (.s 27 rfl .nil) (q_not rfl).o <| WL.p rfl rfl rfl (.s 26 rfl (.s 28 rfl .nil)) (q_pickF rfl hb7973) <| WL.p rfl rfl rfl (.s 29 rfl .nil) (q_move rfl) ?_
   rcases bif_s h with ⟨hb7974, h⟩ | ⟨hb7974, h⟩
   ·refine WL.skip (Unwanted.on rfl rfl rfl hb7974) rfl rfl <| WL.skip (Unwanted.on rfl rfl rfl hb7974) rfl rfl <| WL.skip (Unwanted.on rfl rfl rfl hb7974) rfl rfl <| WL.skip (Unwanted.on rfl rfl rfl hb7974) rfl rfl <| WL.p rfl rfl rfl (.s 30 rfl (.k .nil)) (q_pickT rfl hb7974) <| WL.p rfl rfl rfl (.s 35 rfl .nil) (q_move rfl) <| WL.skip (Unwanted.on rfl rfl rfl rfl) rfl rfl <| WL.skip (Unwanted.on rfl rfl rfl rfl) rfl rfl <| WL.skip (Unwanted.on rfl rfl rfl rfl) rfl rfl <| WL.p rfl rfl rfl (.s 36 rfl (.k .nil)) (q_pickT rfl rfl) <| WL.nil ?_
    exact QN.weaken (.one rfl (.one rfl (.one rfl (.one rfl (.one rfl (.one rfl (.nil _))))))) (Kj7717 () true h)
   ·refine WL.q (Wanted.on rfl rfl rfl hb7974) rfl rfl (.s 9 rfl .nil) (q_field rfl fo29_0 rfl).o <| WL.q (Wanted.on rfl rfl rfl hb7974) rfl rfl (.s 31 rfl .nil) (q_load rfl sh26).o <| WL.q (Wanted.on rfl rfl rfl hb7974) rfl rfl (.s 32 rfl .nil) (q_len rfl elS26).o <| WL.q (Wanted.on rfl rfl rfl hb7974) rfl rfl (.s 33 rfl (.k .nil)) (q_int rfl rfl).o <| WL.p rfl rfl rfl (.s 30 rfl (.s 34 rfl .nil)) (q_pickF rfl hb7974) <| WL.p rfl rfl rfl (.s 35 rfl .nil) (q_move rfl) ?_
    rcases bif_s h with ⟨hb7975, h⟩ | ⟨hb7975, h⟩
    ·refine WL.skip (Unwanted.on rfl rfl rfl hb7975) rfl rfl <| WL.skip (Unwanted.on rfl rfl rfl hb7975) rfl rfl <| WL.skip (Unwanted.on rfl rfl rfl hb7975) rfl rfl <| WL.p rfl rfl rfl (.s 36 rfl (.k .nil)) (q_pickT rfl hb7975) <| WL.nil ?_
     exact QN.weaken (.one rfl (.one rfl (.one rfl (.one rfl (.one rfl (.one rfl (.nil _))))))) (Kj7717 () true h)
    ·refine WL.q (Wanted.on rfl rfl rfl hb7975) rfl rfl (.s 1 rfl .nil) (q_move rfl).o <| WL.q (Wanted.on rfl rfl rfl hb7975) rfl rfl (.s 37 rfl .nil) (q_len rfl elS53).o <| WL.q (Wanted.on rfl rfl rfl hb7975) rfl rfl (.s 38 rfl (.k .nil)) (q_int rfl rfl).o <| WL.p rfl rfl rfl (.s 36 rfl (.s 39 rfl .nil)) (q_pickF rfl hb7975) <| WL.nil ?_
     exact QN.weaken (.one rfl (.one rfl (.one rfl (.one rfl (.one rfl (.one rfl (.nil _))))))) (Kj7717 () (decide ((a1.length : Int) > 10)) h)
end Go.Proofs.YtelpgjfojhcjcaaGreat
