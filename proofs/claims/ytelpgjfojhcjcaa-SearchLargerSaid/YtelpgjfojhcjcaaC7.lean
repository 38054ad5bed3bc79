/- The Go functions compute the pure ones. (Printed by gen.py.) -/
import Derived.Test.YtelpgjfojhcjcaaC6
namespace Go.Proofs.Ytelpgjfojhcjcaa
open Go Go.Abs
attribute [local irreducible] Try.prog
theorem slices_Equal_int.con (k : Nat) (a0 : (List Int)) (a1 : (List Int)) (r : Bool) (h : slices_Equal_int k a0 a1 = some r) : Con Try.prog 18 [] [SlcA kInt a0, SlcA kInt a1] (RA (EqA (.bool r))) := by
 unfold slices_Equal_int at h
 refine Con.of (N := 26) Try.func18 rfl rfl rfl fun w0_ fg_ => W.seq <| W.region <| WL.p rfl rfl rfl (.k .nil) (q_assign rfl) <| WL.nil <| QN.then_ <| W.seq <| W.seq <| W.region <| WL.p rfl rfl rfl (.s 0 rfl .nil) (q_move rfl) <| WL.p rfl rfl rfl (.s 6 rfl .nil) (q_len rfl elS33) <| WL.p rfl rfl rfl (.s 1 rfl .nil) (q_move rfl) <| WL.p rfl rfl rfl (.s 8 rfl .nil) (q_len rfl elS33) ?_
 refine WL.p rfl rfl rfl (.s 7 rfl (.s 9 rfl .nil)) (q_int rfl rfl) <| WL.nil <| QN.then_ ?_
 refine W.condP h rfl (fun hb7572 h => ?_) (fun hb7572 h => ?_)
 ·refine W.seq <| W.region <| WL.p rfl rfl rfl (.k .nil) (q_assign rfl) <| WL.nil <| QN.weaken (env' := [(4, _)]) (.one rfl (.nil _)) <| QN.then_ <| W.ret <| QR.then_ ?_
  cases h
  exact QR.f1 rfl rfl (.t rfl) (.id _)
 ·refine W.skip <| QN.then_ <| W.seq <| W.seq <| W.region <| WL.p rfl rfl rfl (.s 0 rfl .nil) (q_move rfl) <| WL.p rfl rfl rfl (.s 11 rfl .nil) (q_len rfl elS33) <| WL.p rfl rfl rfl (.k .nil) (q_move rfl) <| WL.nil <| QN.weaken (env' := [(13, _), (12, _), (1, _), (0, _)]) (.one rfl (.one rfl (.one rfl (.one rfl (.nil _))))) <| QN.then_ <| W.block ?_
  refine W.loop1 (Γ := Unit) (fun (_ : Unit) (x13 : Int) => [(0, SlcA kInt a0), (1, SlcA kInt a1), (12, EqA (.int .i64 (a0.length : Int))), (13, EqA (.int .i64 x13))]) (fun (_ : Unit) (_ : Int) => []) h () (.one rfl (.one rfl (.one rfl (.one rfl (.nil _))))) rfl (fun rec0 K0 next0 _ x13 h => ?_)
  unfold slices_Equal_int.b0 at h
  refine W.seq <| W.region <| WL.p rfl rfl rfl (.s 13 rfl (.s 12 rfl .nil)) (q_int rfl rfl) <| WL.nil <| QN.then_ <| W.seq ?_
  refine W.condP h rfl (fun hb7591 h => ?_) (fun hb7591 h => ?_)
  ·refine W.skip <| QN.then_ <| W.seq <| W.block <| W.seq <| W.region <| WL.p rfl rfl rfl (.s 13 rfl .nil) (q_move rfl) <| WL.p rfl rfl rfl (.s 15 rfl .nil) (q_assign rfl) <| WL.nil <| QN.then_ <| W.seq <| W.drawK [(0, false), (1, false), (2, false), (3, false), (4, false), (5, false), (6, false), (7, false), (8, false)] [] [[], [], [0, 1], [0, 1, 2], [], [], [4, 5], [4, 5, 6], [0, 1, 2, 3, 4, 5, 6, 7]] mx (by kernel_rfl) <| DK.cons rfl rfl (.p rfl (.s 0 rfl .nil) rfl (q_move rfl)) ?_
   refine DK.cons rfl rfl (.p rfl (.s 5 rfl .nil) rfl (q_move rfl)) ?_
   obtain ⟨c7596, h⟩ := ite_n h
   refine DK.cons rfl rfl (.p rfl (.s 16 rfl (.s 17 rfl .nil)) rfl (q_index rfl el33 rfl c7596.1 c7596.2)) <| DK.cons rfl rfl (.p rfl (.s 18 rfl .nil) rfl (q_load rfl sh3)) <| DK.cons rfl rfl (.p rfl (.s 1 rfl .nil) rfl (q_move rfl)) <| DK.cons rfl rfl (.p rfl (.s 5 rfl .nil) rfl (q_move rfl)) ?_
   obtain ⟨c7597, h⟩ := ite_n h
   refine DK.cons rfl rfl (.p rfl (.s 20 rfl (.s 21 rfl .nil)) rfl (q_index rfl el33 rfl c7597.1 c7597.2)) <| DK.cons rfl rfl (.p rfl (.s 22 rfl .nil) rfl (q_load rfl sh3)) <| DK.cons rfl rfl (.p rfl (.s 19 rfl (.s 23 rfl .nil)) rfl (q_int rfl rfl)) <| DK.nil <| CSteps.nil <| QN.weaken (env' := [(24, _), (13, _), (12, _), (1, _), (0, _)]) (.one rfl (.one rfl (.one rfl (.one rfl (.one rfl (.nil _)))))) <| QN.then_ ?_
   refine W.condP h rfl (fun hb7598 h => ?_) (fun hb7598 h => ?_)
   ·refine W.seq <| W.region <| WL.p rfl rfl rfl (.k .nil) (q_assign rfl) <| WL.nil <| QN.then_ <| W.ret <| QR.block <| QR.then_ <| QR.then_ <| QR.block <| QR.then_ ?_
    cases h
    exact QR.f1 rfl rfl (.t rfl) (.id _)
   ·refine W.skip <| QN.block <| QN.then_ <| W.region ?_
    obtain ⟨c7599, h⟩ := ite_n h
    refine WL.p rfl rfl rfl (.s 13 rfl (.k .nil)) (q_addR rfl c7599) <| WL.p rfl rfl rfl (.s 25 rfl .nil) (q_move rfl) <| WL.nil ?_
    exact next0 () (x13 + 1) _ h (.one rfl (.one rfl (.one rfl (.one rfl (.nil _)))))
  ·refine W.exit <| QX.then_ <| QX.then_ <| QX.here <| QN.then_ <| W.seq <| W.region <| WL.p rfl rfl rfl (.k .nil) (q_assign rfl) <| WL.nil <| QN.then_ <| W.ret ?_
   cases h
   exact QR.f1 rfl rfl (.t rfl) (.id _)
theorem law17_awake.con (k : Nat) (r : Bool) (h : law17_awake k = some r) : Con Try.prog 5 [] [] (RA (EqA (.bool r))) := by
 unfold law17_awake at h
 refine Con.of (N := 64) Try.func5 rfl rfl rfl fun w0_ fg_ => W.seq <| W.region <| WL.p rfl rfl rfl (.k .nil) (q_assign rfl) <| WL.nil <| QN.then_ <| W.seq <| W.region ?_
 obtain ⟨t7600, ht7600, h⟩ := bind_s h
 refine WL.p rfl rfl rfl .nil (q_call (f := 13) (A := AggA [SlcA kNodeType t7600.fNodes, SlcA kEdgeType t7600.fEdges]) (xs := []) («as» := []) rfl ca13 (ref04_Example.con k  t7600 ht7600) rfl) <| WL.p rfl rfl rfl (.k (.k .nil)) (q_lit (kd := kInt) (ps := [(0, .const (.int .i64 0)), (1, .const (.int .i64 0))]) (xs := [.const (.int .i64 0), .const (.int .i64 0)]) («as» := [EqA (.int .i64 0), EqA (.int .i64 0)]) (ys := [0, 0]) rfl rfl el33 rfl gr3 rfl rfl rfl (.cons (CellsOf.one rfl) (.cons (CellsOf.one rfl) .nil))) <| WL.p rfl rfl rfl (.s 10 rfl .nil) (q_build (is := [0]) (xs := [.tmp 10]) (L := [SlcA kInt [0, 0], EqA (.slice none 0 0)]) rfl rfl z36 pl36 rfl rfl (.cons (CellsOf.one rfl) .nil) rfl) <| WL.w [] rfl (Wanted.plain rfl) rfl rfl .nil (w_alloc rfl z32 (l := [EqA (.slice none 0 0), EqA (.slice none 0 0)]) rfl) ?_
 rintro _ _ ⟨b7601, rfl, rfl⟩
 refine WL.w [] rfl (Wanted.plain rfl) rfl rfl .nil (w_alloc rfl z36 (l := [EqA (.slice none 0 0), EqA (.slice none 0 0)]) rfl) ?_
 rintro _ _ ⟨b7602, rfl, rfl⟩
 refine WL.w0 [1] rfl (Wanted.plain rfl) rfl (.s 1 rfl (.s 9 rfl .nil)) (w_store (L := [SlcA kNodeType t7600.fNodes, SlcA kEdgeType t7600.fEdges]) rfl sh32 (CellsOf.agg _) rfl rfl (leB rfl) rfl) ?_
 rintro _ _ ⟨rfl, rfl⟩
 refine WL.w0 [1] rfl (Wanted.plain rfl) rfl (.s 2 rfl (.s 11 rfl .nil)) (w_store (L := [SlcA kInt [0, 0], EqA (.slice none 0 0)]) rfl sh36 (CellsOf.agg _) rfl rfl (leB rfl) rfl) ?_
 rintro _ _ ⟨rfl, rfl⟩
 refine WL.nil <| QN.to (StTo.still [1] 1 rfl rfl) <| QN.to (StTo.still [0] 2 rfl rfl) <| QN.then_ <| W.seq <| W.drawK [(0, false), (1, false), (2, false), (3, false), (4, false), (5, false), (6, false), (7, false), (8, false)] [] [[], [], [], [0, 1, 2], [0, 1, 2, 3], [0, 1, 2, 3, 4], [0, 1, 2, 3, 4], [0, 1, 2, 3, 4, 5], [0, 1, 2, 3, 4, 5, 6, 7]] mx (by kernel_rfl) <| DK.cons rfl rfl (.p rfl (.s 1 rfl .nil) rfl (q_loadS rfl sh32 (leB rfl) rfl)) <| DK.cons rfl rfl (.p rfl (.s 2 rfl .nil) rfl (q_loadS rfl sh36 (leB rfl) rfl)) ?_
 obtain ⟨t7607, ht7607, h⟩ := bind_s h
 refine DK.cons rfl rfl (.p rfl .nil rfl (q_call (f := 14) (A := AggA [SlcA kInt t7607.fNodes, SlcA kEdge t7607.fEdges]) (xs := []) («as» := []) rfl ca14 (law17_bank.con k  t7607 ht7607) rfl)) ?_
 obtain ⟨t7608, ht7608, h⟩ := bind_s h
 refine DK.cons rfl rfl (.p rfl (.s 13 rfl (.s 14 rfl (.s 15 rfl (.k .nil)))) rfl (q_callI (f := 8) (A := TupA [SlcA kMorphism t7608.1, EqA (.int .i64 t7608.2)]) (xs := [.tmp 13, .tmp 14, .tmp 15, .const (.bool true)]) («as» := [AggA [SlcA kNodeType t7600.fNodes, SlcA kEdgeType t7600.fEdges], AggA [SlcA kInt [0, 0], EqA (.slice none 0 0)], AggA [SlcA kInt t7607.fNodes, SlcA kEdge t7607.fEdges], EqA (.bool true)]) rfl ca8 (search_All.con k t7600 (Graph.mk [0, 0] []) t7607 true t7608 ht7608) rfl (.cons (Imp.id _) (.cons (Imp.agg (.cons (Imp.id _) (.cons (Imp.nil kEdge) .nil))) (.cons (Imp.id _) (.cons (Imp.id _) .nil)))))) <| DK.cons rfl rfl (.p rfl (.s 16 rfl .nil) rfl (q_move rfl)) <| DK.cons rfl rfl (.p rfl (.s 12 rfl .nil) rfl (q_extract rfl rfl)) <| DK.cons rfl rfl (.p rfl (.s 12 rfl .nil) rfl (q_extract rfl rfl)) <| DK.cons rfl rfl (.p rfl (.s 17 rfl .nil) rfl (q_assign rfl)) <| DK.cons rfl rfl (.p rfl (.s 18 rfl .nil) rfl (q_assign rfl)) <| DK.nil <| CSteps.nil <| QN.weaken (env' := [(4, _), (3, _), (2, _), (1, _)]) (.one rfl (.one rfl (.one rfl (.one rfl (.nil _))))) <| QN.then_ <| W.seq <| W.drawK [(0, false), (1, false), (2, false), (3, false), (4, false), (5, false), (6, false), (7, false), (8, false)] [] [[], [], [], [0, 1, 2], [0, 1, 2, 3], [0, 1, 2, 3, 4], [0, 1, 2, 3, 4], [0, 1, 2, 3, 4, 5], [0, 1, 2, 3, 4, 5, 6, 7]] mx (by kernel_rfl) <| DK.cons rfl rfl (.p rfl (.s 1 rfl .nil) rfl (q_loadS rfl sh32 (leB rfl) rfl)) ?_
 refine DK.cons rfl rfl (.p rfl (.s 2 rfl .nil) rfl (q_loadS rfl sh36 (leB rfl) rfl)) ?_
 obtain ⟨t7613, ht7613, h⟩ := bind_s h
 refine DK.cons rfl rfl (.p rfl .nil rfl (q_call (f := 14) (A := AggA [SlcA kInt t7613.fNodes, SlcA kEdge t7613.fEdges]) (xs := []) («as» := []) rfl ca14 (law17_bank.con k  t7613 ht7613) rfl)) ?_
 obtain ⟨t7614, ht7614, h⟩ := bind_s h
 refine DK.cons rfl rfl (.p rfl (.s 20 rfl (.s 21 rfl (.s 22 rfl (.k .nil)))) rfl (q_callI (f := 15) (A := TupA [EqA (.int .i64 t7614.1), EqA (.int .i64 t7614.2)]) (xs := [.tmp 20, .tmp 21, .tmp 22, .const (.bool false)]) («as» := [AggA [SlcA kNodeType t7600.fNodes, SlcA kEdgeType t7600.fEdges], AggA [SlcA kInt [0, 0], EqA (.slice none 0 0)], AggA [SlcA kInt t7613.fNodes, SlcA kEdge t7613.fEdges], EqA (.bool false)]) rfl ca15 (search_Count.con k t7600 (Graph.mk [0, 0] []) t7613 false t7614 ht7614) rfl (.cons (Imp.id _) (.cons (Imp.agg (.cons (Imp.id _) (.cons (Imp.nil kEdge) .nil))) (.cons (Imp.id _) (.cons (Imp.id _) .nil)))))) <| DK.cons rfl rfl (.p rfl (.s 23 rfl .nil) rfl (q_move rfl)) <| DK.cons rfl rfl (.p rfl (.s 19 rfl .nil) rfl (q_extract rfl rfl)) <| DK.cons rfl rfl (.p rfl (.s 19 rfl .nil) rfl (q_extract rfl rfl)) <| DK.cons rfl rfl (.p rfl (.s 24 rfl .nil) rfl (q_assign rfl)) <| DK.cons rfl rfl (.p rfl (.s 25 rfl .nil) rfl (q_assign rfl)) <| DK.nil <| CSteps.nil <| QN.weaken (env' := [(6, _), (5, _), (4, _), (3, _), (2, _), (1, _)]) (.one rfl (.one rfl (.one rfl (.one rfl (.one rfl (.one rfl (.nil _))))))) <| QN.then_ <| W.seq <| W.drawK [(0, false), (1, false), (2, false), (3, false), (4, false), (5, false), (6, false), (7, false), (8, false)] [9, 10, 11] [[], [], [], [], [3], [0, 1, 2, 3, 4], [0, 1, 2, 3, 4, 5], [0, 1, 2, 3, 4, 5, 6], [0, 1, 2, 3, 4, 5, 6], [], [0, 1, 2, 3, 4, 5, 6, 7, 9], [0, 1, 2, 3, 4, 5, 6, 7, 8, 9, 10]] mx (by kernel_rfl) <| DK.cons rfl rfl (.p rfl (.s 1 rfl .nil) rfl (q_loadS rfl sh32 (leB rfl) rfl)) ?_
 refine DK.cons rfl rfl (.p rfl (.s 2 rfl .nil) rfl (q_loadS rfl sh36 (leB rfl) rfl)) ?_
 obtain ⟨t7621, ht7621, h⟩ := bind_s h
 refine DK.cons rfl rfl (.p rfl .nil rfl (q_call (f := 14) (A := AggA [SlcA kInt t7621.fNodes, SlcA kEdge t7621.fEdges]) (xs := []) («as» := []) rfl ca14 (law17_bank.con k  t7621 ht7621) rfl)) <| DK.cons rfl rfl (.p rfl (.k (.k .nil)) rfl (q_lit (kd := kInt) (ps := [(0, .const (.int .i64 1)), (1, .const (.int .i64 2))]) (xs := [.const (.int .i64 1), .const (.int .i64 2)]) («as» := [EqA (.int .i64 1), EqA (.int .i64 2)]) (ys := [1, 2]) rfl rfl el33 rfl gr3 rfl rfl rfl (.cons (CellsOf.one rfl) (.cons (CellsOf.one rfl) .nil)))) <| DK.cons rfl rfl (.p rfl (.s 30 rfl .nil) rfl (q_build (is := [0]) (xs := [.tmp 30]) (L := [SlcA kInt [1, 2], EqA (.slice none 0 0)]) rfl rfl z41 pl41 rfl rfl (.cons (CellsOf.one rfl) .nil) rfl)) ?_
 obtain ⟨t7622, ht7622, h⟩ := bind_s h
 refine DK.cons rfl rfl (.p rfl (.s 27 rfl (.s 28 rfl (.s 29 rfl (.s 31 rfl .nil)))) rfl (q_callI (f := 16) (A := TupA [AggA [SlcA kInt t7622.1.fNodes, SlcA kEdge t7622.1.fEdges], EqA (.int .i64 t7622.2)]) (xs := [.tmp 27, .tmp 28, .tmp 29, .tmp 31]) («as» := [AggA [SlcA kNodeType t7600.fNodes, SlcA kEdgeType t7600.fEdges], AggA [SlcA kInt [0, 0], EqA (.slice none 0 0)], AggA [SlcA kInt t7621.fNodes, SlcA kEdge t7621.fEdges], AggA [SlcA kInt [1, 2], EqA (.slice none 0 0)]]) rfl ca16 (search_Instance.con k t7600 (Graph.mk [0, 0] []) t7621 (Morphism.mk [1, 2] []) t7622 ht7622) rfl (.cons (Imp.id _) (.cons (Imp.agg (.cons (Imp.id _) (.cons (Imp.nil kEdge) .nil))) (.cons (Imp.id _) (.cons (Imp.agg (.cons (Imp.id _) (.cons (Imp.nil kInt) .nil))) .nil)))))) <| DK.cons rfl rfl (.p rfl (.s 32 rfl .nil) rfl (q_move rfl)) <| DK.cons rfl rfl (.p rfl (.s 26 rfl .nil) rfl (q_extract rfl rfl)) <| DK.cons rfl rfl (.p rfl (.s 26 rfl .nil) rfl (q_extract rfl rfl)) <| DK.nil <| CSteps.w [] rfl rfl rfl rfl .nil rfl (w_alloc rfl z36 (l := [EqA (.slice none 0 0), EqA (.slice none 0 0)]) rfl) ?_
 rintro _ _ ⟨b7623, rfl, rfl⟩
 refine CSteps.w0 [0] rfl rfl rfl (.s 7 rfl (.s 33 rfl .nil)) rfl (w_store (L := [SlcA kInt t7622.1.fNodes, SlcA kEdge t7622.1.fEdges]) rfl sh36 (CellsOf.agg _) rfl rfl (leB rfl) rfl) ?_
 rintro _ _ ⟨rfl, rfl⟩
 refine CSteps.p rfl rfl rfl (.s 34 rfl .nil) rfl (q_assign rfl) <| CSteps.nil <| QN.to (StTo.still [0] 7 rfl rfl) <| QN.weaken (env' := [(8, _), (7, _), (6, _), (5, _), (4, _), (3, _)]) (.one rfl (.one rfl (.one rfl (.one rfl (.one rfl (.one rfl (.nil _))))))) <| QN.then_ <| W.seq ?_
 refine W.jn1 (Γ := Unit) (fun (_ : Unit) (x0 : Bool) => [(0, EqA (.bool x0))]) (fun (_ : Unit) (_ : Bool) => []) h (fun _ x0 h => ?_) (fun j7632 Kj7632 h => ?_)
 ·refine QN.then_ <| W.ret ?_
  cases h
  exact QR.f1 rfl rfl (.t rfl) (.id _)
 ·refine W.region <| WL.p rfl rfl rfl (.s 4 rfl .nil) (q_move rfl) <| WL.p rfl rfl rfl (.s 35 rfl (.k .nil)) (q_int rfl rfl) <| WL.p rfl rfl rfl (.s 36 rfl .nil) (q_move rfl) ?_
  rcases bif_s h with ⟨hb7633, h⟩ | ⟨hb7633, h⟩
  ·refine WL.q (Wanted.on rfl rfl rfl hb7633) rfl rfl (.s 3 rfl .nil) (q_move rfl).o <| WL.q (Wanted.on rfl rfl rfl hb7633) rfl rfl (.k (.k .nil)) (q_lit (kd := kInt) (ps := [(0, .const (.int .i64 1)), (1, .const (.int .i64 2))]) (xs := [.const (.int .i64 1), .const (.int .i64 2)]) («as» := [EqA (.int .i64 1), EqA (.int .i64 2)]) (ys := [1, 2]) rfl rfl el33 rfl gr3 rfl rfl rfl (.cons (CellsOf.one rfl) (.cons (CellsOf.one rfl) .nil))).o <| WL.q (Wanted.on rfl rfl rfl hb7633) rfl rfl (.s 39 rfl .nil) (q_build (is := [0]) (xs := [.tmp 39]) (L := [SlcA kInt [1, 2], EqA (.slice none 0 0)]) rfl rfl z41 pl41 rfl rfl (.cons (CellsOf.one rfl) .nil) rfl).o <| WL.q (Wanted.on rfl rfl rfl hb7633) rfl rfl (.k (.k .nil)) (q_lit (kd := kInt) (ps := [(0, .const (.int .i64 2)), (1, .const (.int .i64 1))]) (xs := [.const (.int .i64 2), .const (.int .i64 1)]) («as» := [EqA (.int .i64 2), EqA (.int .i64 1)]) (ys := [2, 1]) rfl rfl el33 rfl gr3 rfl rfl rfl (.cons (CellsOf.one rfl) (.cons (CellsOf.one rfl) .nil))).o <| WL.q (Wanted.on rfl rfl rfl hb7633) rfl rfl (.s 41 rfl .nil) (q_build (is := [0]) (xs := [.tmp 41]) (L := [SlcA kInt [2, 1], EqA (.slice none 0 0)]) rfl rfl z41 pl41 rfl rfl (.cons (CellsOf.one rfl) .nil) rfl).o <| WL.q (Wanted.on rfl rfl rfl hb7633) rfl rfl (.s 40 rfl (.s 42 rfl .nil)) (QS.args (q_lit (kd := kMorphism) (ps := [(0, .tmp 40), (1, .tmp 42)]) (xs := [.tmp 40, .tmp 42]) («as» := [AggA [SlcA kInt [1, 2], SlcA kInt []], AggA [SlcA kInt [2, 1], SlcA kInt []]]) (ys := [(Morphism.mk [1, 2] []), (Morphism.mk [2, 1] [])]) rfl rfl el46 rfl gr41 rfl rfl rfl (.cons (CellsOf.agg _) (.cons (CellsOf.agg _) .nil))) (.cons (Imp.agg (.cons (Imp.id _) (.cons (Imp.nil kInt) .nil))) (.cons (Imp.agg (.cons (Imp.id _) (.cons (Imp.nil kInt) .nil))) .nil))).o ?_
   obtain ⟨t7634, ht7634, h⟩ := bind_s h
   refine WL.q (Wanted.on rfl rfl rfl hb7633) rfl rfl (.s 38 rfl (.s 43 rfl .nil)) (q_call (f := 17) (A := EqA (.bool t7634)) (xs := [.tmp 38, .tmp 43]) («as» := [SlcA kMorphism t7608.1, SlcA kMorphism ([(Morphism.mk [1, 2] []), (Morphism.mk [2, 1] [])])]) rfl ca17 (ref17_SameAll.con k t7608.1 ([(Morphism.mk [1, 2] []), (Morphism.mk [2, 1] [])]) t7634 ht7634) rfl).o <| WL.p rfl rfl rfl (.s 37 rfl (.s 44 rfl .nil)) (q_pickT rfl hb7633) <| WL.p rfl rfl rfl (.s 45 rfl .nil) (q_move rfl) ?_
   rcases bif_s h with ⟨hb7635, h⟩ | ⟨hb7635, h⟩
   ·refine WL.q (Wanted.on rfl rfl rfl hb7635) rfl rfl (.s 6 rfl .nil) (q_move rfl).o <| WL.q (Wanted.on rfl rfl rfl hb7635) rfl rfl (.s 47 rfl (.k .nil)) (q_int rfl rfl).o <| WL.p rfl rfl rfl (.s 46 rfl (.s 48 rfl .nil)) (q_pickT rfl hb7635) <| WL.p rfl rfl rfl (.s 49 rfl .nil) (q_move rfl) ?_
    rcases bif_s h with ⟨hb7636, h⟩ | ⟨hb7636, h⟩
    ·refine WL.q (Wanted.on rfl rfl rfl hb7636) rfl rfl (.s 5 rfl .nil) (q_move rfl).o <| WL.q (Wanted.on rfl rfl rfl hb7636) rfl rfl (.s 51 rfl (.k .nil)) (q_int rfl rfl).o <| WL.p rfl rfl rfl (.s 50 rfl (.s 52 rfl .nil)) (q_pickT rfl hb7636) <| WL.p rfl rfl rfl (.s 53 rfl .nil) (q_move rfl) ?_
     rcases bif_s h with ⟨hb7637, h⟩ | ⟨hb7637, h⟩
     ·refine WL.q (Wanted.on rfl rfl rfl hb7637) rfl rfl (.s 8 rfl .nil) (q_move rfl).o <| WL.q (Wanted.on rfl rfl rfl hb7637) rfl rfl (.s 55 rfl (.k .nil)) (q_int rfl rfl).o <| WL.p rfl rfl rfl (.s 54 rfl (.s 56 rfl .nil)) (q_pickT rfl hb7637) <| WL.p rfl rfl rfl (.s 57 rfl .nil) (q_move rfl) ?_
      rcases bif_s h with ⟨hb7638, h⟩ | ⟨hb7638, h⟩
      ·refine WL.q (Wanted.on rfl rfl rfl hb7638) rfl rfl (.s 7 rfl .nil) (q_field rfl fo36_0 rfl).o <| WL.q (Wanted.on rfl rfl rfl hb7638) rfl rfl (.s 59 rfl .nil) (q_load rfl sh33).o <| WL.q (Wanted.on rfl rfl rfl hb7638) rfl rfl (.k (.k .nil)) (q_lit (kd := kInt) (ps := [(0, .const (.int .i64 1)), (1, .const (.int .i64 1))]) (xs := [.const (.int .i64 1), .const (.int .i64 1)]) («as» := [EqA (.int .i64 1), EqA (.int .i64 1)]) (ys := [1, 1]) rfl rfl el33 rfl gr3 rfl rfl rfl (.cons (CellsOf.one rfl) (.cons (CellsOf.one rfl) .nil))).o ?_
       obtain ⟨t7639, ht7639, h⟩ := bind_s h
       refine WL.q (Wanted.on rfl rfl rfl hb7638) rfl rfl (.s 60 rfl (.s 61 rfl .nil)) (q_call (f := 18) (A := EqA (.bool t7639)) (xs := [.tmp 60, .tmp 61]) («as» := [SlcA kInt t7622.1.fNodes, SlcA kInt [1, 1]]) rfl ca18 (slices_Equal_int.con k t7622.1.fNodes [1, 1] t7639 ht7639) rfl).o <| WL.p rfl rfl rfl (.s 58 rfl (.s 62 rfl .nil)) (q_pickT rfl hb7638) <| WL.p rfl rfl rfl (.s 63 rfl .nil) (q_assign rfl) <| WL.nil ?_
       exact QN.weaken (.one rfl (.nil _)) (Kj7632 () t7639 h)
      ·refine WL.skip (Unwanted.on rfl rfl rfl hb7638) rfl rfl <| WL.skip (Unwanted.on rfl rfl rfl hb7638) rfl rfl <| WL.skip (Unwanted.on rfl rfl rfl hb7638) rfl rfl <| WL.skip (Unwanted.on rfl rfl rfl hb7638) rfl rfl <| WL.p rfl rfl rfl (.s 58 rfl (.k .nil)) (q_pickF rfl hb7638) <| WL.p rfl rfl rfl (.s 63 rfl .nil) (q_assign rfl) <| WL.nil ?_
       exact QN.weaken (.one rfl (.nil _)) (Kj7632 () false h)
     ·refine WL.skip (Unwanted.on rfl rfl rfl hb7637) rfl rfl <| WL.skip (Unwanted.on rfl rfl rfl hb7637) rfl rfl <| WL.p rfl rfl rfl (.s 54 rfl (.k .nil)) (q_pickF rfl hb7637) <| WL.p rfl rfl rfl (.s 57 rfl .nil) (q_move rfl) <| WL.skip (Unwanted.on rfl rfl rfl rfl) rfl rfl <| WL.skip (Unwanted.on rfl rfl rfl rfl) rfl rfl <| WL.skip (Unwanted.on rfl rfl rfl rfl) rfl rfl <| WL.skip (Unwanted.on rfl rfl rfl rfl) rfl rfl <| WL.p rfl rfl rfl (.s 58 rfl (.k .nil)) (q_pickF rfl rfl) <| WL.p rfl rfl rfl (.s 63 rfl .nil) (q_assign rfl) <| WL.nil ?_
      exact QN.weaken (.one rfl (.nil _)) (Kj7632 () false h)
    ·refine WL.skip (Unwanted.on rfl rfl rfl hb7636) rfl rfl <| WL.skip (Unwanted.on rfl rfl rfl hb7636) rfl rfl <| WL.p rfl rfl rfl (.s 50 rfl (.k .nil)) (q_pickF rfl hb7636) <| WL.p rfl rfl rfl (.s 53 rfl .nil) (q_move rfl) <| WL.skip (Unwanted.on rfl rfl rfl rfl) rfl rfl <| WL.skip (Unwanted.on rfl rfl rfl rfl) rfl rfl <| WL.p rfl rfl rfl (.s 54 rfl (.k .nil)) (q_pickF rfl rfl) <| WL.p rfl rfl rfl (.s 57 rfl .nil) (q_move rfl) <| WL.skip (Unwanted.on rfl rfl rfl rfl) rfl rfl <| WL.skip (Unwanted.on rfl rfl rfl rfl) rfl rfl <| WL.skip (Unwanted.on rfl rfl rfl rfl) rfl rfl <| WL.skip (Unwanted.on rfl rfl rfl rfl) rfl rfl <| WL.p rfl rfl rfl (.s 58 rfl (.k .nil)) (q_pickF rfl rfl) ?_
     refine WL.p rfl rfl rfl (.s 63 rfl .nil) (q_assign rfl) <| WL.nil ?_
     exact QN.weaken (.one rfl (.nil _)) (Kj7632 () false h)
   ·refine WL.skip (Unwanted.on rfl rfl rfl hb7635) rfl rfl <| WL.skip (Unwanted.on rfl rfl rfl hb7635) rfl rfl <| WL.p rfl rfl rfl (.s 46 rfl (.k .nil)) (q_pickF rfl hb7635) <| WL.p rfl rfl rfl (.s 49 rfl .nil) (q_move rfl) <| WL.skip (Unwanted.on rfl rfl rfl rfl) rfl rfl <| WL.skip (Unwanted.on rfl rfl rfl rfl) rfl rfl <| WL.p rfl rfl rfl (.s 50 rfl (.k .nil)) (q_pickF rfl rfl) <| WL.p rfl rfl rfl (.s 53 rfl .nil) (q_move rfl) <| WL.skip (Unwanted.on rfl rfl rfl rfl) rfl rfl <| WL.skip (Unwanted.on rfl rfl rfl rfl) rfl rfl <| WL.p rfl rfl rfl (.s 54 rfl (.k .nil)) (q_pickF rfl rfl) <| WL.p rfl rfl rfl (.s 57 rfl .nil) (q_move rfl) <| WL.skip (Unwanted.on rfl rfl rfl rfl) rfl rfl ?_
    refine WL.skip (Unwanted.on rfl rfl rfl rfl) rfl rfl <| WL.skip (Unwanted.on rfl rfl rfl rfl) rfl rfl <| WL.skip (Unwanted.on rfl rfl rfl rfl) rfl rfl <| WL.p rfl rfl rfl (.s 58 rfl (.k .nil)) (q_pickF rfl rfl) <| WL.p rfl rfl rfl (.s 63 rfl .nil) (q_assign rfl) <| WL.nil ?_
    exact QN.weaken (.one rfl (.nil _)) (Kj7632 () false h)
  ·refine WL.skip (Unwanted.on rfl rfl rfl hb7633) rfl rfl <| WL.skip (Unwanted.on rfl rfl rfl hb7633) rfl rfl <| WL.skip (Unwanted.on rfl rfl rfl hb7633) rfl rfl <| WL.skip (Unwanted.on rfl rfl rfl hb7633) rfl rfl <| WL.skip (Unwanted.on rfl rfl rfl hb7633) rfl rfl <| WL.skip (Unwanted.on rfl rfl rfl hb7633) rfl rfl <| WL.skip (Unwanted.on rfl rfl rfl hb7633) rfl rfl <| WL.p rfl rfl rfl (.s 37 rfl (.k .nil)) (q_pickF rfl hb7633) <| WL.p rfl rfl rfl (.s 45 rfl .nil) (q_move rfl) <| WL.skip (Unwanted.on rfl rfl rfl rfl) rfl rfl <| WL.skip (Unwanted.on rfl rfl rfl rfl) rfl rfl <| WL.p rfl rfl rfl (.s 46 rfl (.k .nil)) (q_pickF rfl rfl) <| WL.p rfl rfl rfl (.s 49 rfl .nil) (q_move rfl) ?_
   refine WL.skip (Unwanted.on rfl rfl rfl rfl) rfl rfl <| WL.skip (Unwanted.on rfl rfl rfl rfl) rfl rfl <| WL.p rfl rfl rfl (.s 50 rfl (.k .nil)) (q_pickF rfl rfl) <| WL.p rfl rfl rfl (.s 53 rfl .nil) (q_move rfl) <| WL.skip (Unwanted.on rfl rfl rfl rfl) rfl rfl <| WL.skip (Unwanted.on rfl rfl rfl rfl) rfl rfl <| WL.p rfl rfl rfl (.s 54 rfl (.k .nil)) (q_pickF rfl rfl) <| WL.p rfl rfl rfl (.s 57 rfl .nil) (q_move rfl) <| WL.skip (Unwanted.on rfl rfl rfl rfl) rfl rfl <| WL.skip (Unwanted.on rfl rfl rfl rfl) rfl rfl <| WL.skip (Unwanted.on rfl rfl rfl rfl) rfl rfl <| WL.skip (Unwanted.on rfl rfl rfl rfl) rfl rfl <| WL.p rfl rfl rfl (.s 58 rfl (.k .nil)) (q_pickF rfl rfl) ?_
   refine WL.p rfl rfl rfl (.s 63 rfl .nil) (q_assign rfl) <| WL.nil ?_
   exact QN.weaken (.one rfl (.nil _)) (Kj7632 () false h)
theorem ref05_kind.con (k : Nat) (a0 : Int) (r : Bool) (h : ref05_kind k a0 = some r) : Con Try.prog 30 [] [EqA (.int .i64 a0)] (RA (EqA (.bool r))) := by
 unfold ref05_kind at h
 refine Con.of (N := 9) Try.func30 rfl rfl rfl fun w0_ fg_ => W.seq <| W.region <| WL.p rfl rfl rfl (.k .nil) (q_assign rfl) <| WL.nil <| QN.then_ <| W.seq ?_
 refine W.jn1 (Γ := Unit) (fun (_ : Unit) (x2 : Bool) => [(2, EqA (.bool x2))]) (fun (_ : Unit) (_ : Bool) => []) h (fun _ x2 h => ?_) (fun j7642 Kj7642 h => ?_)
 ·refine QN.then_ <| W.ret ?_
  cases h
  exact QR.f1 rfl rfl (.t rfl) (.id _)
 ·refine W.region <| WL.p rfl rfl rfl (.s 0 rfl .nil) (q_move rfl) <| WL.p rfl rfl rfl (.s 3 rfl (.k .nil)) (q_int rfl rfl) <| WL.p rfl rfl rfl (.s 4 rfl .nil) (q_move rfl) ?_
  rcases bif_s h with ⟨hb7643, h⟩ | ⟨hb7643, h⟩
  ·refine WL.q (Wanted.on rfl rfl rfl hb7643) rfl rfl (.s 0 rfl .nil) (q_move rfl).o <| WL.q (Wanted.on rfl rfl rfl hb7643) rfl rfl (.s 6 rfl (.k .nil)) (q_int rfl rfl).o <| WL.p rfl rfl rfl (.s 5 rfl (.s 7 rfl .nil)) (q_pickT rfl hb7643) <| WL.p rfl rfl rfl (.s 8 rfl .nil) (q_assign rfl) <| WL.nil ?_
   exact QN.weaken (.one rfl (.nil _)) (Kj7642 () (decide (a0 ≤ 99)) h)
  ·refine WL.skip (Unwanted.on rfl rfl rfl hb7643) rfl rfl <| WL.skip (Unwanted.on rfl rfl rfl hb7643) rfl rfl <| WL.p rfl rfl rfl (.s 5 rfl (.k .nil)) (q_pickF rfl hb7643) <| WL.p rfl rfl rfl (.s 8 rfl .nil) (q_assign rfl) <| WL.nil ?_
   exact QN.weaken (.one rfl (.nil _)) (Kj7642 () false h)
theorem ref05_right.con (k : Nat) (a0 : Edge) (a1 : Int) (r : Bool) (h : ref05_right k a0 a1 = some r) : Con Try.prog 31 [] [AggA [EqA (.int .i64 a0.fType), EqA (.int .i64 a0.fFrom), EqA (.int .i64 a0.fTo)], EqA (.int .i64 a1)] (RA (EqA (.bool r))) := by
 unfold ref05_right at h
 refine Con.of (N := 30) Try.func31 rfl rfl rfl fun w0_ fg_ => W.seq <| W.region <| WL.p rfl rfl rfl (.s 0 rfl .nil) (q_box rfl (CellsOf.agg _)) <| WL.p rfl rfl rfl (.k .nil) (q_assign rfl) <| WL.nil <| QN.then_ <| W.seq ?_
 refine W.jn1 (Γ := Unit) (fun (_ : Unit) (x4 : Bool) => [(4, EqA (.bool x4))]) (fun (_ : Unit) (_ : Bool) => []) h (fun _ x4 h => ?_) (fun j7650 Kj7650 h => ?_)
 ·refine QN.then_ <| W.ret ?_
  cases h
  exact QR.f1 rfl rfl (.t rfl) (.id _)
 ·refine W.region <| WL.p rfl rfl rfl (.s 2 rfl .nil) (q_field rfl fo65_0 rfl) <| WL.p rfl rfl rfl (.s 5 rfl .nil) (q_load rfl sh3) ?_
  obtain ⟨t7651, ht7651, h⟩ := bind_s h
  refine WL.p rfl rfl rfl (.s 6 rfl .nil) (q_call (f := 30) (A := EqA (.bool t7651)) (xs := [.tmp 6]) («as» := [EqA (.int .i64 a0.fType)]) rfl ca30 (ref05_kind.con k a0.fType t7651 ht7651) rfl) <| WL.p rfl rfl rfl (.s 7 rfl .nil) (q_move rfl) ?_
  rcases bif_s h with ⟨hb7652, h⟩ | ⟨hb7652, h⟩
  ·refine WL.q (Wanted.on rfl rfl rfl hb7652) rfl rfl (.s 2 rfl .nil) (q_field rfl fo65_1 rfl).o <| WL.q (Wanted.on rfl rfl rfl hb7652) rfl rfl (.s 9 rfl .nil) (q_load rfl sh3).o <| WL.q (Wanted.on rfl rfl rfl hb7652) rfl rfl (.s 10 rfl (.k .nil)) (q_int rfl rfl).o <| WL.p rfl rfl rfl (.s 8 rfl (.s 11 rfl .nil)) (q_pickT rfl hb7652) <| WL.p rfl rfl rfl (.s 12 rfl .nil) (q_move rfl) ?_
   rcases bif_s h with ⟨hb7653, h⟩ | ⟨hb7653, h⟩
   ·refine WL.q (Wanted.on rfl rfl rfl hb7653) rfl rfl (.s 2 rfl .nil) (q_field rfl fo65_1 rfl).o <| WL.q (Wanted.on rfl rfl rfl hb7653) rfl rfl (.s 14 rfl .nil) (q_load rfl sh3).o <| WL.q (Wanted.on rfl rfl rfl hb7653) rfl rfl (.s 1 rfl .nil) (q_move rfl).o <| WL.q (Wanted.on rfl rfl rfl hb7653) rfl rfl (.s 15 rfl (.s 16 rfl .nil)) (q_int rfl rfl).o <| WL.p rfl rfl rfl (.s 13 rfl (.s 17 rfl .nil)) (q_pickT rfl hb7653) <| WL.p rfl rfl rfl (.s 18 rfl .nil) (q_move rfl) ?_
    rcases bif_s h with ⟨hb7654, h⟩ | ⟨hb7654, h⟩
    ·refine WL.q (Wanted.on rfl rfl rfl hb7654) rfl rfl (.s 2 rfl .nil) (q_field rfl fo65_2 rfl).o <| WL.q (Wanted.on rfl rfl rfl hb7654) rfl rfl (.s 20 rfl .nil) (q_load rfl sh3).o <| WL.q (Wanted.on rfl rfl rfl hb7654) rfl rfl (.s 21 rfl (.k .nil)) (q_int rfl rfl).o <| WL.p rfl rfl rfl (.s 19 rfl (.s 22 rfl .nil)) (q_pickT rfl hb7654) <| WL.p rfl rfl rfl (.s 23 rfl .nil) (q_move rfl) ?_
     rcases bif_s h with ⟨hb7655, h⟩ | ⟨hb7655, h⟩
     ·refine WL.q (Wanted.on rfl rfl rfl hb7655) rfl rfl (.s 2 rfl .nil) (q_field rfl fo65_2 rfl).o <| WL.q (Wanted.on rfl rfl rfl hb7655) rfl rfl (.s 25 rfl .nil) (q_load rfl sh3).o <| WL.q (Wanted.on rfl rfl rfl hb7655) rfl rfl (.s 1 rfl .nil) (q_move rfl).o <| WL.q (Wanted.on rfl rfl rfl hb7655) rfl rfl (.s 26 rfl (.s 27 rfl .nil)) (q_int rfl rfl).o <| WL.p rfl rfl rfl (.s 24 rfl (.s 28 rfl .nil)) (q_pickT rfl hb7655) <| WL.p rfl rfl rfl (.s 29 rfl .nil) (q_assign rfl) <| WL.nil ?_
      exact QN.weaken (.one rfl (.nil _)) (Kj7650 () (decide (a0.fTo < a1)) h)
     ·refine WL.skip (Unwanted.on rfl rfl rfl hb7655) rfl rfl <| WL.skip (Unwanted.on rfl rfl rfl hb7655) rfl rfl <| WL.skip (Unwanted.on rfl rfl rfl hb7655) rfl rfl <| WL.skip (Unwanted.on rfl rfl rfl hb7655) rfl rfl <| WL.p rfl rfl rfl (.s 24 rfl (.k .nil)) (q_pickF rfl hb7655) <| WL.p rfl rfl rfl (.s 29 rfl .nil) (q_assign rfl) <| WL.nil ?_
      exact QN.weaken (.one rfl (.nil _)) (Kj7650 () false h)
    ·refine WL.skip (Unwanted.on rfl rfl rfl hb7654) rfl rfl <| WL.skip (Unwanted.on rfl rfl rfl hb7654) rfl rfl <| WL.skip (Unwanted.on rfl rfl rfl hb7654) rfl rfl <| WL.p rfl rfl rfl (.s 19 rfl (.k .nil)) (q_pickF rfl hb7654) <| WL.p rfl rfl rfl (.s 23 rfl .nil) (q_move rfl) <| WL.skip (Unwanted.on rfl rfl rfl rfl) rfl rfl <| WL.skip (Unwanted.on rfl rfl rfl rfl) rfl rfl <| WL.skip (Unwanted.on rfl rfl rfl rfl) rfl rfl <| WL.skip (Unwanted.on rfl rfl rfl rfl) rfl rfl <| WL.p rfl rfl rfl (.s 24 rfl (.k .nil)) (q_pickF rfl rfl) <| WL.p rfl rfl rfl (.s 29 rfl .nil) (q_assign rfl) <| WL.nil ?_
     exact QN.weaken (.one rfl (.nil _)) (Kj7650 () false h)
   ·refine WL.skip (Unwanted.on rfl rfl rfl hb7653) rfl rfl <| WL.skip (Unwanted.on rfl rfl rfl hb7653) rfl rfl <| WL.skip (Unwanted.on rfl rfl rfl hb7653) rfl rfl <| WL.skip (Unwanted.on rfl rfl rfl hb7653) rfl rfl <| WL.p rfl rfl rfl (.s 13 rfl (.k .nil)) (q_pickF rfl hb7653) <| WL.p rfl rfl rfl (.s 18 rfl .nil) (q_move rfl) <| WL.skip (Unwanted.on rfl rfl rfl rfl) rfl rfl <| WL.skip (Unwanted.on rfl rfl rfl rfl) rfl rfl <| WL.skip (Unwanted.on rfl rfl rfl rfl) rfl rfl <| WL.p rfl rfl rfl (.s 19 rfl (.k .nil)) (q_pickF rfl rfl) <| WL.p rfl rfl rfl (.s 23 rfl .nil) (q_move rfl) <| WL.skip (Unwanted.on rfl rfl rfl rfl) rfl rfl <| WL.skip (Unwanted.on rfl rfl rfl rfl) rfl rfl ?_
    refine WL.skip (Unwanted.on rfl rfl rfl rfl) rfl rfl <| WL.skip (Unwanted.on rfl rfl rfl rfl) rfl rfl <| WL.p rfl rfl rfl (.s 24 rfl (.k .nil)) (q_pickF rfl rfl) <| WL.p rfl rfl rfl (.s 29 rfl .nil) (q_assign rfl) <| WL.nil ?_
    exact QN.weaken (.one rfl (.nil _)) (Kj7650 () false h)
  ·refine WL.skip (Unwanted.on rfl rfl rfl hb7652) rfl rfl <| WL.skip (Unwanted.on rfl rfl rfl hb7652) rfl rfl <| WL.skip (Unwanted.on rfl rfl rfl hb7652) rfl rfl <| WL.p rfl rfl rfl (.s 8 rfl (.k .nil)) (q_pickF rfl hb7652) <| WL.p rfl rfl rfl (.s 12 rfl .nil) (q_move rfl) <| WL.skip (Unwanted.on rfl rfl rfl rfl) rfl rfl <| WL.skip (Unwanted.on rfl rfl rfl rfl) rfl rfl <| WL.skip (Unwanted.on rfl rfl rfl rfl) rfl rfl <| WL.skip (Unwanted.on rfl rfl rfl rfl) rfl rfl <| WL.p rfl rfl rfl (.s 13 rfl (.k .nil)) (q_pickF rfl rfl) <| WL.p rfl rfl rfl (.s 18 rfl .nil) (q_move rfl) <| WL.skip (Unwanted.on rfl rfl rfl rfl) rfl rfl <| WL.skip (Unwanted.on rfl rfl rfl rfl) rfl rfl ?_
   refine WL.skip (Unwanted.on rfl rfl rfl rfl) rfl rfl <| WL.p rfl rfl rfl (.s 19 rfl (.k .nil)) (q_pickF rfl rfl) <| WL.p rfl rfl rfl (.s 23 rfl .nil) (q_move rfl) <| WL.skip (Unwanted.on rfl rfl rfl rfl) rfl rfl <| WL.skip (Unwanted.on rfl rfl rfl rfl) rfl rfl <| WL.skip (Unwanted.on rfl rfl rfl rfl) rfl rfl <| WL.skip (Unwanted.on rfl rfl rfl rfl) rfl rfl <| WL.p rfl rfl rfl (.s 24 rfl (.k .nil)) (q_pickF rfl rfl) <| WL.p rfl rfl rfl (.s 29 rfl .nil) (q_assign rfl) <| WL.nil ?_
   exact QN.weaken (.one rfl (.nil _)) (Kj7650 () false h)
theorem ref05_Valid.con (k : Nat) (a0 : Graph) (r : Int) (h : ref05_Valid k a0 = some r) : Con Try.prog 19 [] [AggA [SlcA kInt a0.fNodes, SlcA kEdge a0.fEdges]] (RA (EqA (.int .i64 r))) := by
 unfold ref05_Valid at h
 refine Con.of (N := 46) Try.func19 rfl rfl rfl fun w0_ fg_ => W.seq <| W.region <| WL.p rfl rfl rfl (.s 0 rfl .nil) (q_box rfl (CellsOf.agg _)) <| WL.p rfl rfl rfl (.k .nil) (q_assign rfl) <| WL.nil <| QN.then_ <| W.seq <| W.seq ?_
 refine W.jn1 (Γ := Unit) (fun (_ : Unit) (x14 : Bool) => [(1, PtrA [SlcA kInt a0.fNodes, SlcA kEdge a0.fEdges]), (14, EqA (.bool x14))]) (fun (_ : Unit) (_ : Bool) => []) h (fun _ x14 h => ?_) (fun j7658 Kj7658 h => ?_)
 ·refine QN.then_ ?_
  refine W.condP h rfl (fun hb7659 h => ?_) (fun hb7659 h => ?_)
  ·refine W.seq <| W.region <| WL.p rfl rfl rfl (.k .nil) (q_assign rfl) <| WL.nil <| QN.then_ <| W.ret <| QR.then_ ?_
   cases h
   exact QR.f1 rfl rfl (.t rfl) (.id _)
  ·refine W.skip <| QN.then_ <| W.seq <| W.seq <| W.region <| WL.p rfl rfl rfl (.k .nil) (q_assign rfl) <| WL.nil <| QN.then_ <| W.block ?_
   refine W.loop1 (Γ := Unit) (fun (_ : Unit) (x3 : Int) => [(1, PtrA [SlcA kInt a0.fNodes, SlcA kEdge a0.fEdges]), (3, EqA (.int .i64 x3))]) (fun (_ : Unit) (_ : Int) => []) h () (.one rfl (.one rfl (.nil _))) rfl (fun rec0 K0 next0 _ x3 h => ?_)
   unfold ref05_Valid.b0 at h
   refine W.seq <| W.seq <| W.region <| WL.p rfl rfl rfl (.s 3 rfl .nil) (q_move rfl) <| WL.p rfl rfl rfl (.s 1 rfl .nil) (q_field rfl fo36_0 rfl) <| WL.p rfl rfl rfl (.s 16 rfl .nil) (q_load rfl sh33) <| WL.p rfl rfl rfl (.s 17 rfl .nil) (q_len rfl elS33) <| WL.p rfl rfl rfl (.s 15 rfl (.s 18 rfl .nil)) (q_int rfl rfl) <| WL.nil <| QN.then_ ?_
   refine W.condP h rfl (fun hb7724 h => ?_) (fun hb7724 h => ?_)
   ·refine W.skip <| QN.then_ <| W.seq <| W.block <| W.seq <| W.region <| WL.p rfl rfl rfl (.s 1 rfl .nil) (q_field rfl fo36_0 rfl) <| WL.p rfl rfl rfl (.s 22 rfl .nil) (q_load rfl sh33) <| WL.p rfl rfl rfl (.s 3 rfl .nil) (q_move rfl) ?_
    obtain ⟨c7725, h⟩ := ite_n h
    refine WL.p rfl rfl rfl (.s 23 rfl (.s 24 rfl .nil)) (q_index rfl el33 rfl c7725.1 c7725.2) <| WL.p rfl rfl rfl (.s 25 rfl .nil) (q_load rfl sh3) ?_
    obtain ⟨t7726, ht7726, h⟩ := bind_s h
    refine WL.p rfl rfl rfl (.s 26 rfl .nil) (q_call (f := 30) (A := EqA (.bool t7726)) (xs := [.tmp 26]) («as» := [EqA (.int .i64 (rd a0.fNodes x3))]) rfl ca30 (ref05_kind.con k (rd a0.fNodes x3) t7726 ht7726) rfl) <| WL.p rfl rfl rfl (.s 27 rfl .nil) (q_not rfl) <| WL.nil <| QN.weaken (env' := [(28, _), (3, _), (1, _)]) (.one rfl (.one rfl (.one rfl (.nil _)))) <| QN.then_ ?_
    refine W.condP h rfl (fun hb7727 h => ?_) (fun hb7727 h => ?_)
    ·refine W.seq <| W.region <| WL.p rfl rfl rfl (.k .nil) (q_assign rfl) <| WL.nil <| QN.then_ <| W.ret <| QR.block <| QR.then_ <| QR.then_ <| QR.block <| QR.then_ ?_
     cases h
     exact QR.f1 rfl rfl (.t rfl) (.id _)
    ·refine W.skip <| QN.block <| QN.then_ <| W.region <| WL.p rfl rfl rfl (.s 3 rfl .nil) (q_move rfl) ?_
     obtain ⟨c7728, h⟩ := ite_n h
     refine WL.p rfl rfl rfl (.s 20 rfl (.k .nil)) (q_addR rfl c7728) <| WL.p rfl rfl rfl (.s 21 rfl .nil) (q_assign rfl) <| WL.nil ?_
     exact next0 () (x3 + 1) _ h (.one rfl (.one rfl (.nil _)))
   ·refine W.exit <| QX.then_ <| QX.then_ <| QX.here <| QN.then_ <| W.seq <| W.seq <| W.region <| WL.p rfl rfl rfl (.k .nil) (q_assign rfl) <| WL.nil <| QN.then_ <| W.block ?_
    refine W.loop1 (Γ := Unit) (fun (_ : Unit) (x4 : Int) => [(1, PtrA [SlcA kInt a0.fNodes, SlcA kEdge a0.fEdges]), (4, EqA (.int .i64 x4))]) (fun (_ : Unit) (_ : Int) => []) h () (.one rfl (.one rfl (.nil _))) rfl (fun rec1 K1 next1 _ x4 h => ?_)
    unfold ref05_Valid.b1 at h
    refine W.seq <| W.seq <| W.region <| WL.p rfl rfl rfl (.s 4 rfl .nil) (q_move rfl) <| WL.p rfl rfl rfl (.s 1 rfl .nil) (q_field rfl fo36_1 rfl) <| WL.p rfl rfl rfl (.s 30 rfl .nil) (q_load rfl sh34) <| WL.p rfl rfl rfl (.s 31 rfl .nil) (q_len rfl elS34) <| WL.p rfl rfl rfl (.s 29 rfl (.s 32 rfl .nil)) (q_int rfl rfl) <| WL.nil <| QN.then_ ?_
    refine W.condP h rfl (fun hb7747 h => ?_) (fun hb7747 h => ?_)
    ·refine W.skip <| QN.then_ <| W.seq <| W.block <| W.seq <| W.drawK [(0, false), (1, false), (2, false), (3, false), (4, false), (5, false), (6, false), (7, false), (8, false), (9, false)] [] [[], [0], [], [0, 1, 2], [0, 1, 2, 3], [], [5], [5, 6], [0, 1, 2, 3, 4, 5, 6, 7], [0, 1, 2, 3, 4, 5, 6, 7, 8]] mx (by kernel_rfl) <| DK.cons rfl rfl (.p rfl (.s 1 rfl .nil) rfl (q_field rfl fo36_1 rfl)) <| DK.cons rfl rfl (.p rfl (.s 36 rfl .nil) rfl (q_load rfl sh34)) <| DK.cons rfl rfl (.p rfl (.s 4 rfl .nil) rfl (q_move rfl)) ?_
     obtain ⟨c7752, h⟩ := ite_n h
     refine DK.cons rfl rfl (.p rfl (.s 37 rfl (.s 38 rfl .nil)) rfl (q_index rfl el34 rfl c7752.1 c7752.2)) <| DK.cons rfl rfl (.p rfl (.s 39 rfl .nil) rfl (q_loadS rfl sh65 (leB rfl) rfl)) <| DK.cons rfl rfl (.p rfl (.s 1 rfl .nil) rfl (q_field rfl fo36_0 rfl)) <| DK.cons rfl rfl (.p rfl (.s 41 rfl .nil) rfl (q_load rfl sh33)) <| DK.cons rfl rfl (.p rfl (.s 42 rfl .nil) rfl (q_len rfl elS33)) ?_
     obtain ⟨t7753, ht7753, h⟩ := bind_s h
     refine DK.cons rfl rfl (.p rfl (.s 40 rfl (.s 43 rfl .nil)) rfl (q_call (f := 31) (A := EqA (.bool t7753)) (xs := [.tmp 40, .tmp 43]) («as» := [AggA [EqA (.int .i64 ((rd a0.fEdges x4).fType)), EqA (.int .i64 ((rd a0.fEdges x4).fFrom)), EqA (.int .i64 ((rd a0.fEdges x4).fTo))], EqA (.int .i64 (a0.fNodes.length : Int))]) rfl ca31 (ref05_right.con k (rd a0.fEdges x4) (a0.fNodes.length : Int) t7753 ht7753) rfl)) <| DK.cons rfl rfl (.p rfl (.s 44 rfl .nil) rfl (q_not rfl)) <| DK.nil <| CSteps.nil <| QN.weaken (env' := [(45, _), (4, _), (1, _)]) (.one rfl (.one rfl (.one rfl (.nil _)))) <| QN.then_ ?_
     refine W.condP h rfl (fun hb7754 h => ?_) (fun hb7754 h => ?_)
     ·refine W.seq <| W.region <| WL.p rfl rfl rfl (.k .nil) (q_assign rfl) <| WL.nil <| QN.then_ <| W.ret <| QR.block <| QR.then_ <| QR.then_ <| QR.block <| QR.then_ ?_
      cases h
      exact QR.f1 rfl rfl (.t rfl) (.id _)
     ·refine W.skip <| QN.block <| QN.then_ <| W.region <| WL.p rfl rfl rfl (.s 4 rfl .nil) (q_move rfl) ?_
      obtain ⟨c7755, h⟩ := ite_n h
      refine WL.p rfl rfl rfl (.s 34 rfl (.k .nil)) (q_addR rfl c7755) <| WL.p rfl rfl rfl (.s 35 rfl .nil) (q_assign rfl) <| WL.nil ?_
      exact next1 () (x4 + 1) _ h (.one rfl (.one rfl (.nil _)))
    ·refine W.exit <| QX.then_ <| QX.then_ <| QX.here <| QN.weaken (env' := []) (.nil _) <| QN.then_ <| W.seq <| W.region <| WL.p rfl rfl rfl (.k .nil) (q_assign rfl) <| WL.nil <| QN.then_ <| W.ret ?_
     cases h
     exact QR.f1 rfl rfl (.t rfl) (.id _)
 ·refine W.region <| WL.p rfl rfl rfl (.s 1 rfl .nil) (q_field rfl fo36_0 rfl) <| WL.p rfl rfl rfl (.s 5 rfl .nil) (q_load rfl sh33) <| WL.p rfl rfl rfl (.s 6 rfl .nil) (q_len rfl elS33) <| WL.p rfl rfl rfl (.s 7 rfl (.k .nil)) (q_int rfl rfl) <| WL.p rfl rfl rfl (.s 8 rfl .nil) (q_move rfl) ?_
  rcases bif_s h with ⟨hb7756, h⟩ | ⟨hb7756, h⟩
  ·refine WL.skip (Unwanted.on rfl rfl rfl hb7756) rfl rfl <| WL.skip (Unwanted.on rfl rfl rfl hb7756) rfl rfl <| WL.skip (Unwanted.on rfl rfl rfl hb7756) rfl rfl <| WL.skip (Unwanted.on rfl rfl rfl hb7756) rfl rfl <| WL.p rfl rfl rfl (.s 9 rfl (.k .nil)) (q_pickT rfl hb7756) <| WL.nil ?_
   exact QN.weaken (.one rfl (.one rfl (.nil _))) (Kj7658 () true h)
  ·refine WL.q (Wanted.on rfl rfl rfl hb7756) rfl rfl (.s 1 rfl .nil) (q_field rfl fo36_1 rfl).o <| WL.q (Wanted.on rfl rfl rfl hb7756) rfl rfl (.s 10 rfl .nil) (q_load rfl sh34).o <| WL.q (Wanted.on rfl rfl rfl hb7756) rfl rfl (.s 11 rfl .nil) (q_len rfl elS34).o <| WL.q (Wanted.on rfl rfl rfl hb7756) rfl rfl (.s 12 rfl (.k .nil)) (q_int rfl rfl).o <| WL.p rfl rfl rfl (.s 9 rfl (.s 13 rfl .nil)) (q_pickF rfl hb7756) <| WL.nil ?_
   exact QN.weaken (.one rfl (.one rfl (.nil _))) (Kj7658 () (decide ((a0.fEdges.length : Int) > 80)) h)
theorem ref05_Copied.con (k : Nat) (a0 : Graph) (r : Graph) (h : ref05_Copied k a0 = some r) : Con Try.prog 20 [] [AggA [SlcA kInt a0.fNodes, SlcA kEdge a0.fEdges]] (fun O' A => ∃ u0 u1, O' = [SlE 3 u0 kInt r.fNodes, SlE 65 u1 kEdge r.fEdges] ∧ A = AggA [HdA u0, HdA u1]) := by
 unfold ref05_Copied at h
 refine Con.of (N := 12) Try.func20 rfl rfl rfl fun w0_ fg_ => W.seq <| W.region <| WL.p rfl rfl rfl (.s 0 rfl .nil) (q_box rfl (CellsOf.agg _)) <| WL.w [] rfl (Wanted.plain rfl) rfl rfl .nil (w_alloc rfl z36 (l := [EqA (.slice none 0 0), EqA (.slice none 0 0)]) rfl) ?_
 rintro _ _ ⟨b7774, rfl, rfl⟩
 refine WL.nil <| QN.then_ <| W.seq <| W.drawK [(0, false), (1, false), (2, false), (4, false), (5, false), (6, false)] [3, 7, 8, 9] [[], [], [1], [0, 1, 2], [], [], [5], [0, 1, 2, 3, 4, 5, 6], [0, 1, 2, 3, 4, 5, 6, 7], [0, 1, 2, 3, 4, 5, 6, 7, 8]] mx (by kernel_rfl) <| DK.cons rfl rfl (.p rfl .nil rfl (q_lit0 rfl el33 gr3)) <| DK.cons rfl rfl (.p rfl (.s 1 rfl .nil) rfl (q_field rfl fo36_0 rfl)) <| DK.cons rfl rfl (.p rfl (.s 4 rfl .nil) rfl (q_load rfl sh33)) ?_
 obtain ⟨c7783, h⟩ := ite_n h
 refine DK.cons rfl rfl (.p rfl .nil rfl (q_lit0 rfl el34 gr65)) <| DK.cons rfl rfl (.p rfl (.s 1 rfl .nil) rfl (q_field rfl fo36_1 rfl)) <| DK.cons rfl rfl (.p rfl (.s 8 rfl .nil) rfl (q_load rfl sh34)) ?_
 obtain ⟨c7785, h⟩ := ite_n h
 refine DK.nil <| CSteps.w [] rfl rfl rfl rfl (.s 3 rfl (.s 5 rfl .nil)) rfl (w_appendZ (kd := kInt) rfl el33 rfl gr3 c7783) ?_
 rintro _ _ ⟨v7784, rfl, rfl⟩
 refine CSteps.w [] rfl rfl rfl rfl (.s 7 rfl (.s 9 rfl .nil)) rfl (w_appendZ (kd := kEdge) rfl el34 rfl gr65 c7785) ?_
 rintro _ _ ⟨v7786, rfl, rfl⟩
 refine CSteps.p rfl rfl rfl (.s 6 rfl (.s 10 rfl .nil)) rfl (q_build (is := [0, 1]) (xs := [.tmp 6, .tmp 10]) (L := [HdA v7784, HdA v7786]) rfl rfl z36 pl36 rfl rfl (.cons (CellsOf.one rfl) (.cons (CellsOf.one rfl) .nil)) rfl) <| CSteps.w0 [2] rfl rfl rfl (.s 2 rfl (.s 11 rfl .nil)) rfl (w_store (L := [HdA v7784, HdA v7786]) rfl sh36 (CellsOf.agg _) rfl rfl (leB rfl) rfl) ?_
 rintro _ _ ⟨rfl, rfl⟩
 refine CSteps.nil <| QN.to (StTo.still [0] 2 rfl rfl) <| QN.weaken (env' := [(2, _)]) (.one rfl (.nil _)) <| QN.then_ <| W.ret ?_
 cases h
 refine QR.order [1, 0] rfl ?_
 exact QR.r1 rfl rfl (.ps rfl sh36 rfl) ⟨v7784, v7786, rfl, rfl⟩
theorem ref05_Numbers.con (k : Nat) (a0 : Int) (a1 : Int) (r : (List Int)) (h : ref05_Numbers k a0 a1 = some r) : Con Try.prog 21 [] [EqA (.int .i64 a0), EqA (.int .i64 a1)] (RA (SlcA kInt r)) := by
 unfold ref05_Numbers at h
 refine Con.of (N := 19) Try.func21 rfl rfl rfl fun w0_ fg_ => W.seq <| W.region <| WL.p rfl rfl rfl (.k .nil) (q_assign rfl) <| WL.nil <| QN.then_ <| W.seq <| W.region <| WL.p rfl rfl rfl (.k .nil) (q_assign rfl) <| WL.nil <| QN.then_ <| W.seq <| W.seq ?_
 refine W.region <| WL.p rfl rfl rfl (.k .nil) (q_assign rfl) <| WL.nil <| QN.then_ <| W.block <| W.to (StTo.newNil 3 kInt) <| W.to (StTo.as 5 rfl Imp.nilHd) ?_
 refine W.loop2 (Γ := Value) (fun (g0 : Value) (_ : (List Int)) (x6 : Int) => [(0, EqA (.int .i64 a0)), (1, EqA (.int .i64 a1)), (5, HdA g0), (6, EqA (.int .i64 x6))]) (fun (g0 : Value) (x5 : (List Int)) (_ : Int) => [SlE 3 g0 kInt x5]) h (.slice none 0 0) (.one rfl (.one rfl (.one rfl (.one rfl (.nil _))))) rfl (fun rec0 K0 next0 g0 x5 x6 h => ?_)
 unfold ref05_Numbers.b0 at h
 refine W.seq <| W.seq <| W.region <| WL.p rfl rfl rfl (.s 6 rfl .nil) (q_move rfl) <| WL.p rfl rfl rfl (.s 1 rfl .nil) (q_move rfl) <| WL.p rfl rfl rfl (.s 7 rfl (.s 8 rfl .nil)) (q_int rfl rfl) <| WL.nil <| QN.then_ ?_
 refine W.condP h rfl (fun hb7804 h => ?_) (fun hb7804 h => ?_)
 ·refine W.skip <| QN.then_ <| W.seq <| W.block <| W.region <| WL.p rfl rfl rfl (.s 5 rfl .nil) (q_move rfl) <| WL.p rfl rfl rfl (.s 0 rfl .nil) (q_move rfl) <| WL.p rfl rfl rfl (.s 6 rfl .nil) (q_move rfl) ?_
  obtain ⟨c7805, h⟩ := ite_n h
  refine WL.p rfl rfl rfl (.s 13 rfl (.s 14 rfl .nil)) (q_addR rfl c7805) <| WL.p rfl rfl rfl (.s 15 rfl .nil) (q_lit (kd := kInt) (ps := [(0, .tmp 15)]) (xs := [.tmp 15]) («as» := [EqA (.int .i64 (a0 + x6))]) (ys := [(a0 + x6)]) rfl rfl el33 rfl gr3 rfl rfl rfl (.cons (CellsOf.one rfl) .nil)) ?_
  obtain ⟨c7806, h⟩ := ite_n h
  refine WL.w [0] rfl (Wanted.plain rfl) rfl rfl (.s 12 rfl (.s 16 rfl .nil)) (w_append (kd := kInt) rfl el33 rfl gr3 c7806) ?_
  rintro _ _ ⟨v7807, rfl, rfl⟩
  refine WL.p rfl rfl rfl (.s 17 rfl .nil) (q_assign rfl) <| WL.nil <| QN.block <| QN.weaken (env' := [(5, _), (6, _), (1, _), (0, _)]) (.one rfl (.one rfl (.one rfl (.one rfl (.nil _))))) <| QN.then_ <| W.region <| WL.p rfl rfl rfl (.s 6 rfl .nil) (q_move rfl) ?_
  obtain ⟨c7808, h⟩ := ite_n h
  refine WL.p rfl rfl rfl (.s 10 rfl (.k .nil)) (q_addR rfl c7808) <| WL.p rfl rfl rfl (.s 11 rfl .nil) (q_assign rfl) <| WL.nil ?_
  exact next0 v7807 (x5 ++ [(a0 + x6)]) (x6 + 1) _ h (.one rfl (.one rfl (.one rfl (.one rfl (.nil _)))))
 ·refine W.exit <| QX.then_ <| QX.then_ <| QX.here <| QN.then_ <| W.seq <| W.region <| WL.p rfl rfl rfl (.s 5 rfl .nil) (q_move rfl) <| WL.p rfl rfl rfl (.s 18 rfl .nil) (q_assign rfl) <| WL.nil <| QN.weaken (env' := [(4, _)]) (.one rfl (.nil _)) <| QN.then_ <| W.ret ?_
  cases h
  exact QR.f1 rfl rfl (.t rfl) (.slc 0 rfl)
theorem ref05_Union.con (k : Nat) (a0 : Graph) (a1 : Graph) (r : (Graph × Morphism × Morphism × Int)) (h : ref05_Union k a0 a1 = some r) : Con Try.prog 6 [] [AggA [SlcA kInt a0.fNodes, SlcA kEdge a0.fEdges], AggA [SlcA kInt a1.fNodes, SlcA kEdge a1.fEdges]] (RA (TupA [AggA [SlcA kInt r.1.fNodes, SlcA kEdge r.1.fEdges], AggA [SlcA kInt r.2.1.fNodes, SlcA kInt r.2.1.fEdges], AggA [SlcA kInt r.2.2.1.fNodes, SlcA kInt r.2.2.1.fEdges], EqA (.int .i64 r.2.2.2)])) := by
 unfold ref05_Union at h
 refine Con.of (N := 107) Try.func6 rfl rfl rfl fun w0_ fg_ => W.seq <| W.region <| WL.p rfl rfl rfl (.s 0 rfl .nil) (q_box rfl (CellsOf.agg _)) <| WL.p rfl rfl rfl (.s 1 rfl .nil) (q_box rfl (CellsOf.agg _)) <| WL.w [] rfl (Wanted.plain rfl) rfl rfl .nil (w_alloc rfl z36 (l := [EqA (.slice none 0 0), EqA (.slice none 0 0)]) rfl) ?_
 rintro _ _ ⟨b7809, rfl, rfl⟩
 refine WL.w [] rfl (Wanted.plain rfl) rfl rfl .nil (w_alloc rfl z41 (l := [EqA (.slice none 0 0), EqA (.slice none 0 0)]) rfl) ?_
 rintro _ _ ⟨b7810, rfl, rfl⟩
 refine WL.w [] rfl (Wanted.plain rfl) rfl rfl .nil (w_alloc rfl z41 (l := [EqA (.slice none 0 0), EqA (.slice none 0 0)]) rfl) ?_
 rintro _ _ ⟨b7811, rfl, rfl⟩
 refine WL.p rfl rfl rfl (.k .nil) (q_assign rfl) <| WL.nil <| QN.then_ <| W.seq <| W.seq <| W.region <| WL.p rfl rfl rfl (.s 2 rfl .nil) (q_loadS rfl sh36 (leB rfl) rfl) ?_
 obtain ⟨t7812, ht7812, h⟩ := bind_s h
 refine WL.p rfl rfl rfl (.s 15 rfl .nil) (q_call (f := 19) (A := EqA (.int .i64 t7812)) (xs := [.tmp 15]) («as» := [AggA [SlcA kInt a0.fNodes, SlcA kEdge a0.fEdges]]) rfl ca19 (ref05_Valid.con k a0 t7812 ht7812) rfl) <| WL.p rfl rfl rfl (.s 16 rfl .nil) (q_assign rfl) <| WL.nil <| QN.then_ <| W.seq <| W.region <| WL.p rfl rfl rfl (.s 8 rfl .nil) (q_move rfl) <| WL.p rfl rfl rfl (.s 17 rfl (.k .nil)) (q_int rfl rfl) <| WL.nil <| QN.then_ ?_
 refine W.condP h rfl (fun hb7813 h => ?_) (fun hb7813 h => ?_)
 ·refine W.seq <| W.region <| WL.p rfl rfl rfl .nil (q_build (is := []) (xs := []) (L := [EqA (.slice none 0 0), EqA (.slice none 0 0)]) rfl rfl z36 pl36 rfl rfl .nil rfl) <| WL.p rfl rfl rfl .nil (q_build (is := []) (xs := []) (L := [EqA (.slice none 0 0), EqA (.slice none 0 0)]) rfl rfl z41 pl41 rfl rfl .nil rfl) <| WL.p rfl rfl rfl .nil (q_build (is := []) (xs := []) (L := [EqA (.slice none 0 0), EqA (.slice none 0 0)]) rfl rfl z41 pl41 rfl rfl .nil rfl) <| WL.p rfl rfl rfl (.s 8 rfl .nil) (q_move rfl) <| WL.w0 [2] rfl (Wanted.plain rfl) rfl (.s 4 rfl (.s 19 rfl .nil)) (w_store (L := [EqA (.slice none 0 0), EqA (.slice none 0 0)]) rfl sh36 (CellsOf.agg _) rfl rfl (leB rfl) rfl) ?_
  rintro _ _ ⟨rfl, rfl⟩
  refine WL.w0 [2] rfl (Wanted.plain rfl) rfl (.s 5 rfl (.s 20 rfl .nil)) (w_store (L := [EqA (.slice none 0 0), EqA (.slice none 0 0)]) rfl sh41 (CellsOf.agg _) rfl rfl (leB rfl) rfl) ?_
  rintro _ _ ⟨rfl, rfl⟩
  refine WL.w0 [2] rfl (Wanted.plain rfl) rfl (.s 6 rfl (.s 21 rfl .nil)) (w_store (L := [EqA (.slice none 0 0), EqA (.slice none 0 0)]) rfl sh41 (CellsOf.agg _) rfl rfl (leB rfl) rfl) ?_
  rintro _ _ ⟨rfl, rfl⟩
  refine WL.p rfl rfl rfl (.s 22 rfl .nil) (q_assign rfl) <| WL.nil <| QN.weaken (env' := [(7, _), (6, _), (5, _), (4, _)]) (.one rfl (.one rfl (.one rfl (.one rfl (.nil _))))) <| QN.then_ <| W.ret <| QR.then_ ?_
  cases h
  exact QR.f4 rfl rfl (.cs (i := 2) rfl sh36 rfl rfl) (.cs (i := 1) rfl sh41 rfl rfl) (.cs (i := 0) rfl sh41 rfl rfl) (.t rfl) (.imp (Imp.tup (.cons (Imp.agg (.cons (Imp.nil kInt) (.cons (Imp.nil kEdge) .nil))) (.cons (Imp.agg (.cons (Imp.nil kInt) (.cons (Imp.nil kInt) .nil))) (.cons (Imp.agg (.cons (Imp.nil kInt) (.cons (Imp.nil kInt) .nil))) (.cons (Imp.id _) .nil))))))
 ·refine W.skip <| QN.weaken (env' := [(6, _), (5, _), (4, _), (3, _), (2, _)]) (.one rfl (.one rfl (.one rfl (.one rfl (.one rfl (.nil _)))))) <| QN.then_ <| W.seq <| W.seq <| W.region <| WL.p rfl rfl rfl (.s 3 rfl .nil) (q_loadS rfl sh36 (leB rfl) rfl) ?_
  obtain ⟨t7814, ht7814, h⟩ := bind_s h
  refine WL.p rfl rfl rfl (.s 23 rfl .nil) (q_call (f := 19) (A := EqA (.int .i64 t7814)) (xs := [.tmp 23]) («as» := [AggA [SlcA kInt a1.fNodes, SlcA kEdge a1.fEdges]]) rfl ca19 (ref05_Valid.con k a1 t7814 ht7814) rfl) <| WL.p rfl rfl rfl (.s 24 rfl .nil) (q_assign rfl) <| WL.nil <| QN.then_ <| W.seq <| W.region <| WL.p rfl rfl rfl (.s 9 rfl .nil) (q_move rfl) <| WL.p rfl rfl rfl (.s 25 rfl (.k .nil)) (q_int rfl rfl) <| WL.nil <| QN.then_ ?_
  refine W.condP h rfl (fun hb7815 h => ?_) (fun hb7815 h => ?_)
  ·refine W.seq <| W.region <| WL.p rfl rfl rfl .nil (q_build (is := []) (xs := []) (L := [EqA (.slice none 0 0), EqA (.slice none 0 0)]) rfl rfl z36 pl36 rfl rfl .nil rfl) <| WL.p rfl rfl rfl .nil (q_build (is := []) (xs := []) (L := [EqA (.slice none 0 0), EqA (.slice none 0 0)]) rfl rfl z41 pl41 rfl rfl .nil rfl) <| WL.p rfl rfl rfl .nil (q_build (is := []) (xs := []) (L := [EqA (.slice none 0 0), EqA (.slice none 0 0)]) rfl rfl z41 pl41 rfl rfl .nil rfl) <| WL.p rfl rfl rfl (.s 9 rfl .nil) (q_move rfl) <| WL.w0 [2] rfl (Wanted.plain rfl) rfl (.s 4 rfl (.s 27 rfl .nil)) (w_store (L := [EqA (.slice none 0 0), EqA (.slice none 0 0)]) rfl sh36 (CellsOf.agg _) rfl rfl (leB rfl) rfl) ?_
   rintro _ _ ⟨rfl, rfl⟩
   refine WL.w0 [2] rfl (Wanted.plain rfl) rfl (.s 5 rfl (.s 28 rfl .nil)) (w_store (L := [EqA (.slice none 0 0), EqA (.slice none 0 0)]) rfl sh41 (CellsOf.agg _) rfl rfl (leB rfl) rfl) ?_
   rintro _ _ ⟨rfl, rfl⟩
   refine WL.w0 [2] rfl (Wanted.plain rfl) rfl (.s 6 rfl (.s 29 rfl .nil)) (w_store (L := [EqA (.slice none 0 0), EqA (.slice none 0 0)]) rfl sh41 (CellsOf.agg _) rfl rfl (leB rfl) rfl) ?_
   rintro _ _ ⟨rfl, rfl⟩
   refine WL.p rfl rfl rfl (.s 30 rfl .nil) (q_assign rfl) <| WL.nil <| QN.weaken (env' := [(7, _), (6, _), (5, _), (4, _)]) (.one rfl (.one rfl (.one rfl (.one rfl (.nil _))))) <| QN.then_ <| W.ret <| QR.then_ ?_
   cases h
   exact QR.f4 rfl rfl (.cs (i := 2) rfl sh36 rfl rfl) (.cs (i := 1) rfl sh41 rfl rfl) (.cs (i := 0) rfl sh41 rfl rfl) (.t rfl) (.imp (Imp.tup (.cons (Imp.agg (.cons (Imp.nil kInt) (.cons (Imp.nil kEdge) .nil))) (.cons (Imp.agg (.cons (Imp.nil kInt) (.cons (Imp.nil kInt) .nil))) (.cons (Imp.agg (.cons (Imp.nil kInt) (.cons (Imp.nil kInt) .nil))) (.cons (Imp.id _) .nil))))))
  ·refine W.skip <| QN.then_ <| W.seq <| W.drawK [(0, false), (1, false), (2, false), (3, false), (4, false), (5, false), (6, false), (7, false)] [] [[], [0], [0, 1], [], [3], [3, 4], [0, 1, 2], [0, 1, 2, 3, 4, 5, 6]] mx (by kernel_rfl) <| DK.cons rfl rfl (.p rfl (.s 2 rfl .nil) rfl (q_field rfl fo36_0 rfl)) <| DK.cons rfl rfl (.p rfl (.s 31 rfl .nil) rfl (q_load rfl sh33)) <| DK.cons rfl rfl (.p rfl (.s 32 rfl .nil) rfl (q_len rfl elS33)) <| DK.cons rfl rfl (.p rfl (.s 2 rfl .nil) rfl (q_field rfl fo36_1 rfl)) <| DK.cons rfl rfl (.p rfl (.s 34 rfl .nil) rfl (q_load rfl sh34)) <| DK.cons rfl rfl (.p rfl (.s 35 rfl .nil) rfl (q_len rfl elS34)) <| DK.cons rfl rfl (.p rfl (.s 33 rfl .nil) rfl (q_assign rfl)) <| DK.cons rfl rfl (.p rfl (.s 36 rfl .nil) rfl (q_assign rfl)) <| DK.nil ?_
   refine CSteps.nil <| QN.weaken (env' := [(11, _), (10, _), (6, _), (5, _), (4, _), (3, _), (2, _)]) (.one rfl (.one rfl (.one rfl (.one rfl (.one rfl (.one rfl (.one rfl (.nil _)))))))) <| QN.then_ <| W.seq <| W.seq ?_
   refine W.jn1 (Γ := Unit) (fun (_ : Unit) (x50 : Bool) => [(2, PtrA [SlcA kInt a0.fNodes, SlcA kEdge a0.fEdges]), (3, PtrA [SlcA kInt a1.fNodes, SlcA kEdge a1.fEdges]), (4, EqA (.pointer (some ⟨b7809, 0, none⟩))), (5, EqA (.pointer (some ⟨b7810, 0, none⟩))), (6, EqA (.pointer (some ⟨b7811, 0, none⟩))), (10, EqA (.int .i64 (a0.fNodes.length : Int))), (11, EqA (.int .i64 (a0.fEdges.length : Int))), (50, EqA (.bool x50))]) (fun (_ : Unit) (_ : Bool) => [BoxE b7809 [EqA (.slice none 0 0), EqA (.slice none 0 0)], BoxE b7810 [EqA (.slice none 0 0), EqA (.slice none 0 0)], BoxE b7811 [EqA (.slice none 0 0), EqA (.slice none 0 0)]]) h (fun _ x50 h => ?_) (fun j7820 Kj7820 h => ?_)
   ·refine QN.then_ ?_
    refine W.condP h rfl (fun hb7821 h => ?_) (fun hb7821 h => ?_)
    ·refine W.seq <| W.region <| WL.p rfl rfl rfl .nil (q_build (is := []) (xs := []) (L := [EqA (.slice none 0 0), EqA (.slice none 0 0)]) rfl rfl z36 pl36 rfl rfl .nil rfl) <| WL.p rfl rfl rfl .nil (q_build (is := []) (xs := []) (L := [EqA (.slice none 0 0), EqA (.slice none 0 0)]) rfl rfl z41 pl41 rfl rfl .nil rfl) <| WL.p rfl rfl rfl .nil (q_build (is := []) (xs := []) (L := [EqA (.slice none 0 0), EqA (.slice none 0 0)]) rfl rfl z41 pl41 rfl rfl .nil rfl) <| WL.w0 [0] rfl (Wanted.plain rfl) rfl (.s 4 rfl (.s 51 rfl .nil)) (w_store (L := [EqA (.slice none 0 0), EqA (.slice none 0 0)]) rfl sh36 (CellsOf.agg _) rfl rfl (leB rfl) rfl) ?_
     rintro _ _ ⟨rfl, rfl⟩
     refine WL.w0 [1] rfl (Wanted.plain rfl) rfl (.s 5 rfl (.s 52 rfl .nil)) (w_store (L := [EqA (.slice none 0 0), EqA (.slice none 0 0)]) rfl sh41 (CellsOf.agg _) rfl rfl (leB rfl) rfl) ?_
     rintro _ _ ⟨rfl, rfl⟩
     refine WL.w0 [2] rfl (Wanted.plain rfl) rfl (.s 6 rfl (.s 53 rfl .nil)) (w_store (L := [EqA (.slice none 0 0), EqA (.slice none 0 0)]) rfl sh41 (CellsOf.agg _) rfl rfl (leB rfl) rfl) ?_
     rintro _ _ ⟨rfl, rfl⟩
     refine WL.p rfl rfl rfl (.k .nil) (q_assign rfl) <| WL.nil <| QN.weaken (env' := [(7, _), (6, _), (5, _), (4, _)]) (.one rfl (.one rfl (.one rfl (.one rfl (.nil _))))) <| QN.then_ <| W.ret <| QR.then_ ?_
     cases h
     exact QR.f4 rfl rfl (.cs (i := 2) rfl sh36 rfl rfl) (.cs (i := 1) rfl sh41 rfl rfl) (.cs (i := 0) rfl sh41 rfl rfl) (.t rfl) (.imp (Imp.tup (.cons (Imp.agg (.cons (Imp.nil kInt) (.cons (Imp.nil kEdge) .nil))) (.cons (Imp.agg (.cons (Imp.nil kInt) (.cons (Imp.nil kInt) .nil))) (.cons (Imp.agg (.cons (Imp.nil kInt) (.cons (Imp.nil kInt) .nil))) (.cons (Imp.id _) .nil))))))
    ·refine W.skip <| QN.then_ <| W.seq <| W.region <| WL.p rfl rfl rfl (.s 2 rfl .nil) (q_loadS rfl sh36 (leB rfl) rfl) ?_
     obtain ⟨t7822, ht7822, h⟩ := bind_s h
     refine WL.w [] rfl (Wanted.plain rfl) rfl rfl (.s 54 rfl .nil) (w_callI (f := 20) (xs := [.tmp 54]) («as» := [AggA [SlcA kInt a0.fNodes, SlcA kEdge a0.fEdges]]) rfl ca20 (ref05_Copied.con k a0 t7822 ht7822) rfl (.cons (Imp.id _) .nil)) ?_
     rintro _ _ ⟨v7823, v7824, rfl, rfl⟩
     refine WL.w [] rfl (Wanted.plain rfl) rfl rfl .nil (w_alloc rfl z36 (l := [EqA (.slice none 0 0), EqA (.slice none 0 0)]) rfl) ?_
     rintro _ _ ⟨b7825, rfl, rfl⟩
     refine WL.w0 [0] rfl (Wanted.plain rfl) rfl (.s 12 rfl (.s 55 rfl .nil)) (w_store (L := [HdA v7823, HdA v7824]) rfl sh36 (CellsOf.agg _) rfl rfl (leB rfl) rfl) ?_
     rintro _ _ ⟨rfl, rfl⟩
     refine WL.nil <| QN.then_ <| W.seq <| W.region <| WL.p rfl rfl rfl (.s 12 rfl .nil) (q_fieldP rfl fo36_0) <| WL.q (Wanted.plain rfl) rfl rfl (.s 56 rfl .nil) (q_loadB rfl sh33 (i := 0) rfl rfl) <| WL.p rfl rfl rfl (.s 3 rfl .nil) (q_field rfl fo36_0 rfl) <| WL.p rfl rfl rfl (.s 58 rfl .nil) (q_load rfl sh33) ?_
     obtain ⟨c7826, h⟩ := ite_n h
     refine WL.w [1] rfl (Wanted.plain rfl) rfl rfl (.s 57 rfl (.s 59 rfl .nil)) (w_append (kd := kInt) rfl el33 rfl gr3 c7826) ?_
     rintro _ _ ⟨v7827, rfl, rfl⟩
     refine WL.p rfl rfl rfl (.s 12 rfl .nil) (q_fieldP rfl fo36_0) <| WL.w0 [1] rfl (Wanted.plain rfl) rfl (.s 61 rfl (.s 60 rfl .nil)) (w_store (L := [HdA v7827, HdA v7824]) rfl sh33 (CellsOf.one rfl) rfl rfl (leB rfl) rfl) ?_
     rintro _ _ ⟨rfl, rfl⟩
     refine WL.nil <| QN.weaken (env' := [(12, _), (11, _), (10, _), (6, _), (5, _), (4, _), (3, _)]) (.one rfl (.one rfl (.one rfl (.one rfl (.one rfl (.one rfl (.one rfl (.nil _)))))))) <| QN.then_ <| W.seq <| W.seq <| W.region <| WL.p rfl rfl rfl (.k .nil) (q_assign rfl) <| WL.nil <| QN.then_ <| W.block <| W.order [3, 3, 3, 0, 0, 0] rfl ?_
     refine W.loop2 (Γ := Value) (fun (_ : Value) (_ : (List Edge)) (x13 : Int) => [(3, PtrA [SlcA kInt a1.fNodes, SlcA kEdge a1.fEdges]), (4, EqA (.pointer (some ⟨b7809, 0, none⟩))), (5, EqA (.pointer (some ⟨b7810, 0, none⟩))), (6, EqA (.pointer (some ⟨b7811, 0, none⟩))), (10, EqA (.int .i64 (a0.fNodes.length : Int))), (11, EqA (.int .i64 (a0.fEdges.length : Int))), (12, EqA (.pointer (some ⟨b7825, 0, none⟩))), (13, EqA (.int .i64 x13))]) (fun (g0 : Value) (y1 : (List Edge)) (_ : Int) => [BoxE b7809 [EqA (.slice none 0 0), EqA (.slice none 0 0)], BoxE b7810 [EqA (.slice none 0 0), EqA (.slice none 0 0)], BoxE b7811 [EqA (.slice none 0 0), EqA (.slice none 0 0)], BoxE b7825 [HdA v7827, HdA g0], SlE 3 v7827 kInt (t7822.fNodes ++ a1.fNodes), SlE 65 g0 kEdge y1]) h v7824 (.one rfl (.one rfl (.one rfl (.one rfl (.one rfl (.one rfl (.one rfl (.one rfl (.nil _))))))))) rfl (fun rec0 K0 next0 g0 y1 x13 h => ?_)
     unfold ref05_Union.b0 at h
     refine W.seq <| W.seq <| W.region <| WL.p rfl rfl rfl (.s 13 rfl .nil) (q_move rfl) <| WL.p rfl rfl rfl (.s 3 rfl .nil) (q_field rfl fo36_1 rfl) <| WL.p rfl rfl rfl (.s 63 rfl .nil) (q_load rfl sh34) <| WL.p rfl rfl rfl (.s 64 rfl .nil) (q_len rfl elS34) <| WL.p rfl rfl rfl (.s 62 rfl (.s 65 rfl .nil)) (q_int rfl rfl) <| WL.nil <| QN.then_ ?_
     refine W.condP h rfl (fun hb7872 h => ?_) (fun hb7872 h => ?_)
     ·refine W.skip <| QN.then_ <| W.seq <| W.block <| W.seq <| W.region <| WL.p rfl rfl rfl (.s 3 rfl .nil) (q_field rfl fo36_1 rfl) <| WL.p rfl rfl rfl (.s 69 rfl .nil) (q_load rfl sh34) <| WL.p rfl rfl rfl (.s 13 rfl .nil) (q_move rfl) ?_
      obtain ⟨c7873, h⟩ := ite_n h
      refine WL.p rfl rfl rfl (.s 70 rfl (.s 71 rfl .nil)) (q_index rfl el34 rfl c7873.1 c7873.2) <| WL.p rfl rfl rfl (.s 72 rfl .nil) (q_loadS rfl sh65 (leB rfl) rfl) <| WL.w [] rfl (Wanted.plain rfl) rfl rfl .nil (w_alloc rfl z65 (l := [EqA (.int .i64 0), EqA (.int .i64 0), EqA (.int .i64 0)]) rfl) ?_
      rintro _ _ ⟨b7874, rfl, rfl⟩
      refine WL.w0 [0] rfl (Wanted.plain rfl) rfl (.s 14 rfl (.s 73 rfl .nil)) (w_store (L := [EqA (.int .i64 ((rd a1.fEdges x13).fType)), EqA (.int .i64 ((rd a1.fEdges x13).fFrom)), EqA (.int .i64 ((rd a1.fEdges x13).fTo))]) rfl sh65 (CellsOf.agg _) rfl rfl (leB rfl) rfl) ?_
      rintro _ _ ⟨rfl, rfl⟩
      refine WL.nil <| QN.to (StTo.still [0] 14 rfl rfl) <| QN.weaken (env' := [(14, _), (13, _), (12, _), (11, _), (10, _), (6, _), (5, _), (4, _), (3, _)]) (.one rfl (.one rfl (.one rfl (.one rfl (.one rfl (.one rfl (.one rfl (.one rfl (.one rfl (.nil _)))))))))) <| QN.then_ <| W.region <| WL.p rfl rfl rfl (.s 12 rfl .nil) (q_fieldP rfl fo36_1) <| WL.q (Wanted.plain rfl) rfl rfl (.s 74 rfl .nil) (q_loadB rfl sh34 (i := 3) rfl rfl) <| WL.p rfl rfl rfl (.s 14 rfl .nil) (q_field rfl fo65_0 rfl) <| WL.p rfl rfl rfl (.s 76 rfl .nil) (q_load rfl sh3) <| WL.p rfl rfl rfl (.s 14 rfl .nil) (q_field rfl fo65_1 rfl) <| WL.p rfl rfl rfl (.s 78 rfl .nil) (q_load rfl sh3) <| WL.p rfl rfl rfl (.s 10 rfl .nil) (q_move rfl) ?_
      obtain ⟨c7875, h⟩ := ite_n h
      refine WL.p rfl rfl rfl (.s 79 rfl (.s 80 rfl .nil)) (q_addR rfl c7875) <| WL.p rfl rfl rfl (.s 14 rfl .nil) (q_field rfl fo65_2 rfl) <| WL.p rfl rfl rfl (.s 82 rfl .nil) (q_load rfl sh3) <| WL.p rfl rfl rfl (.s 10 rfl .nil) (q_move rfl) ?_
      obtain ⟨c7876, h⟩ := ite_n h
      refine WL.p rfl rfl rfl (.s 83 rfl (.s 84 rfl .nil)) (q_addR rfl c7876) <| WL.p rfl rfl rfl (.s 77 rfl (.s 81 rfl (.s 85 rfl .nil))) (q_build (is := [0, 1, 2]) (xs := [.tmp 77, .tmp 81, .tmp 85]) (L := [EqA (.int .i64 ((rd a1.fEdges x13).fType)), EqA (.int .i64 ((rd a1.fEdges x13).fFrom + (a0.fNodes.length : Int))), EqA (.int .i64 ((rd a1.fEdges x13).fTo + (a0.fNodes.length : Int)))]) rfl rfl z65 pl65 rfl rfl (.cons (CellsOf.one rfl) (.cons (CellsOf.one rfl) (.cons (CellsOf.one rfl) .nil))) rfl) <| WL.p rfl rfl rfl (.s 86 rfl .nil) (q_lit (kd := kEdge) (ps := [(0, .tmp 86)]) (xs := [.tmp 86]) («as» := [AggA [EqA (.int .i64 ((rd a1.fEdges x13).fType)), EqA (.int .i64 ((rd a1.fEdges x13).fFrom + (a0.fNodes.length : Int))), EqA (.int .i64 ((rd a1.fEdges x13).fTo + (a0.fNodes.length : Int)))]]) (ys := [(Edge.mk ((rd a1.fEdges x13).fType) ((rd a1.fEdges x13).fFrom + (a0.fNodes.length : Int)) ((rd a1.fEdges x13).fTo + (a0.fNodes.length : Int)))]) rfl rfl el34 rfl gr65 rfl rfl rfl (.cons (CellsOf.agg _) .nil)) ?_
      obtain ⟨c7877, h⟩ := ite_n h
      refine WL.w [5] rfl (Wanted.plain rfl) rfl rfl (.s 75 rfl (.s 87 rfl .nil)) (w_append (kd := kEdge) rfl el34 rfl gr65 c7877) ?_
      rintro _ _ ⟨v7878, rfl, rfl⟩
      refine WL.p rfl rfl rfl (.s 12 rfl .nil) (q_fieldP rfl fo36_1) <| WL.w0 [4] rfl (Wanted.plain rfl) rfl (.s 89 rfl (.s 88 rfl .nil)) (w_store (L := [HdA v7827, HdA v7878]) rfl sh34 (CellsOf.one rfl) rfl rfl (leB rfl) rfl) ?_
      rintro _ _ ⟨rfl, rfl⟩
      refine WL.nil <| QN.block <| QN.weaken (env' := [(13, _), (12, _), (11, _), (10, _), (6, _), (5, _), (4, _), (3, _)]) (.one rfl (.one rfl (.one rfl (.one rfl (.one rfl (.one rfl (.one rfl (.one rfl (.nil _))))))))) <| QN.then_ <| W.region <| WL.p rfl rfl rfl (.s 13 rfl .nil) (q_move rfl) ?_
      obtain ⟨c7879, h⟩ := ite_n h
      refine WL.p rfl rfl rfl (.s 67 rfl (.k .nil)) (q_addR rfl c7879) <| WL.p rfl rfl rfl (.s 68 rfl .nil) (q_assign rfl) <| WL.nil <| QN.order [2, 2, 2, 0, 1, 0] rfl ?_
      exact next0 v7878 (y1 ++ [(Edge.mk ((rd a1.fEdges x13).fType) ((rd a1.fEdges x13).fFrom + (a0.fNodes.length : Int)) ((rd a1.fEdges x13).fTo + (a0.fNodes.length : Int)))]) (x13 + 1) _ h (.one rfl (.one rfl (.one rfl (.one rfl (.one rfl (.one rfl (.one rfl (.one rfl (.nil _)))))))))
     ·refine W.exit <| QX.then_ <| QX.then_ <| QX.here <| QN.then_ <| W.seq <| W.drawK [(0, true), (1, false), (2, false), (3, false), (4, false), (5, false), (6, false), (7, false), (8, false), (9, false), (10, false), (11, false), (12, false), (13, false), (14, false), (15, false), (16, false)] [17, 18, 19, 20] [[], [], [1], [], [1, 2, 3], [1, 2, 3, 4], [], [], [7], [7, 8], [1, 2, 3, 4, 6, 7, 8, 9], [], [], [12], [12, 13], [1, 2, 3, 4, 6, 7, 8, 9, 10, 11, 12, 13, 14], [1, 2, 3, 4, 6, 7, 8, 9, 10, 11, 12, 13, 14, 15], [0, 1, 2, 3, 4, 6, 7, 8, 9, 10, 11, 12, 13, 14, 15], [0, 1, 2, 3, 4, 5, 6, 7, 8, 9, 10, 11, 12, 13, 14, 15, 17], [0, 1, 2, 3, 4, 5, 6, 7, 8, 9, 10, 11, 12, 13, 14, 15, 16, 17, 18], [0, 1, 2, 3, 4, 5, 6, 7, 8, 9, 10, 11, 12, 13, 14, 15, 16, 17, 18, 19]] mx (by kernel_rfl) <| DK.cons rfl rfl (.o rfl (.s 12 rfl .nil) rfl (q_loadBS (l' := [HdA v7827, HdA g0]) rfl sh36 (i := 3) rfl rfl rfl)) <| DK.cons rfl rfl (.p rfl (.s 10 rfl .nil) rfl (q_move rfl)) ?_
      obtain ⟨t7888, ht7888, h⟩ := bind_s h
      refine DK.cons rfl rfl (.p rfl (.k (.s 91 rfl .nil)) rfl (q_call (f := 21) (A := SlcA kInt t7888) (xs := [.const (.int .i64 0), .tmp 91]) («as» := [EqA (.int .i64 0), EqA (.int .i64 (a0.fNodes.length : Int))]) rfl ca21 (ref05_Numbers.con k 0 (a0.fNodes.length : Int) t7888 ht7888) rfl)) <| DK.cons rfl rfl (.p rfl (.s 11 rfl .nil) rfl (q_move rfl)) ?_
      obtain ⟨t7889, ht7889, h⟩ := bind_s h
      refine DK.cons rfl rfl (.p rfl (.k (.s 93 rfl .nil)) rfl (q_call (f := 21) (A := SlcA kInt t7889) (xs := [.const (.int .i64 0), .tmp 93]) («as» := [EqA (.int .i64 0), EqA (.int .i64 (a0.fEdges.length : Int))]) rfl ca21 (ref05_Numbers.con k 0 (a0.fEdges.length : Int) t7889 ht7889) rfl)) <| DK.cons rfl rfl (.p rfl (.s 92 rfl (.s 94 rfl .nil)) rfl (q_build (is := [0, 1]) (xs := [.tmp 92, .tmp 94]) (L := [SlcA kInt t7888, SlcA kInt t7889]) rfl rfl z41 pl41 rfl rfl (.cons (CellsOf.one rfl) (.cons (CellsOf.one rfl) .nil)) rfl)) <| DK.cons rfl rfl (.p rfl (.s 10 rfl .nil) rfl (q_move rfl)) <| DK.cons rfl rfl (.p rfl (.s 3 rfl .nil) rfl (q_field rfl fo36_0 rfl)) <| DK.cons rfl rfl (.p rfl (.s 97 rfl .nil) rfl (q_load rfl sh33)) <| DK.cons rfl rfl (.p rfl (.s 98 rfl .nil) rfl (q_len rfl elS33)) ?_
      obtain ⟨t7890, ht7890, h⟩ := bind_s h
      refine DK.cons rfl rfl (.p rfl (.s 96 rfl (.s 99 rfl .nil)) rfl (q_call (f := 21) (A := SlcA kInt t7890) (xs := [.tmp 96, .tmp 99]) («as» := [EqA (.int .i64 (a0.fNodes.length : Int)), EqA (.int .i64 (a1.fNodes.length : Int))]) rfl ca21 (ref05_Numbers.con k (a0.fNodes.length : Int) (a1.fNodes.length : Int) t7890 ht7890) rfl)) <| DK.cons rfl rfl (.p rfl (.s 11 rfl .nil) rfl (q_move rfl)) <| DK.cons rfl rfl (.p rfl (.s 3 rfl .nil) rfl (q_field rfl fo36_1 rfl)) <| DK.cons rfl rfl (.p rfl (.s 102 rfl .nil) rfl (q_load rfl sh34)) <| DK.cons rfl rfl (.p rfl (.s 103 rfl .nil) rfl (q_len rfl elS34)) ?_
      obtain ⟨t7891, ht7891, h⟩ := bind_s h
      refine DK.cons rfl rfl (.p rfl (.s 101 rfl (.s 104 rfl .nil)) rfl (q_call (f := 21) (A := SlcA kInt t7891) (xs := [.tmp 101, .tmp 104]) («as» := [EqA (.int .i64 (a0.fEdges.length : Int)), EqA (.int .i64 (a1.fEdges.length : Int))]) rfl ca21 (ref05_Numbers.con k (a0.fEdges.length : Int) (a1.fEdges.length : Int) t7891 ht7891) rfl)) <| DK.cons rfl rfl (.p rfl (.s 100 rfl (.s 105 rfl .nil)) rfl (q_build (is := [0, 1]) (xs := [.tmp 100, .tmp 105]) (L := [SlcA kInt t7890, SlcA kInt t7891]) rfl rfl z41 pl41 rfl rfl (.cons (CellsOf.one rfl) (.cons (CellsOf.one rfl) .nil)) rfl)) <| DK.nil <| CSteps.w0 [0] rfl rfl rfl (.s 4 rfl (.s 90 rfl .nil)) rfl (w_store (L := [HdA v7827, HdA g0]) rfl sh36 (CellsOf.agg _) rfl rfl (leB rfl) rfl) ?_
      rintro _ _ ⟨rfl, rfl⟩
      refine CSteps.w0 [1] rfl rfl rfl (.s 5 rfl (.s 95 rfl .nil)) rfl (w_store (L := [SlcA kInt t7888, SlcA kInt t7889]) rfl sh41 (CellsOf.agg _) rfl rfl (leB rfl) rfl) ?_
      rintro _ _ ⟨rfl, rfl⟩
      refine CSteps.w0 [2] rfl rfl rfl (.s 6 rfl (.s 106 rfl .nil)) rfl (w_store (L := [SlcA kInt t7890, SlcA kInt t7891]) rfl sh41 (CellsOf.agg _) rfl rfl (leB rfl) rfl) ?_
      rintro _ _ ⟨rfl, rfl⟩
      refine CSteps.p rfl rfl rfl (.k .nil) rfl (q_assign rfl) <| CSteps.nil <| QN.weaken (env' := [(7, _), (6, _), (5, _), (4, _)]) (.one rfl (.one rfl (.one rfl (.one rfl (.nil _))))) <| QN.then_ <| W.ret ?_
      cases h
      exact QR.f4 rfl rfl (.cs (i := 2) rfl sh36 rfl rfl) (.cs (i := 1) rfl sh41 rfl rfl) (.cs (i := 0) rfl sh41 rfl rfl) (.t rfl) (.tup (.cons (.agg (.cons (.slc 4 rfl) (.cons (.slc 5 rfl) .nil))) (.cons (.id _) (.cons (.id _) (.cons (.id _) .nil)))))
   ·refine W.region <| WL.p rfl rfl rfl (.s 10 rfl .nil) (q_move rfl) <| WL.p rfl rfl rfl (.s 3 rfl .nil) (q_field rfl fo36_0 rfl) <| WL.p rfl rfl rfl (.s 38 rfl .nil) (q_load rfl sh33) <| WL.p rfl rfl rfl (.s 39 rfl .nil) (q_len rfl elS33) ?_
    obtain ⟨c7892, h⟩ := ite_n h
    refine WL.p rfl rfl rfl (.s 37 rfl (.s 40 rfl .nil)) (q_addR rfl c7892) <| WL.p rfl rfl rfl (.s 41 rfl (.k .nil)) (q_int rfl rfl) <| WL.p rfl rfl rfl (.s 42 rfl .nil) (q_move rfl) ?_
    rcases bif_s h with ⟨hb7893, h⟩ | ⟨hb7893, h⟩
    ·refine WL.skip (Unwanted.on rfl rfl rfl hb7893) rfl rfl <| WL.skip (Unwanted.on rfl rfl rfl hb7893) rfl rfl <| WL.skip (Unwanted.on rfl rfl rfl hb7893) rfl rfl <| WL.skip (Unwanted.on rfl rfl rfl hb7893) rfl rfl <| WL.skip (Unwanted.on rfl rfl rfl hb7893) rfl rfl <| WL.skip (Unwanted.on rfl rfl rfl hb7893) rfl rfl <| WL.p rfl rfl rfl (.s 43 rfl (.k .nil)) (q_pickT rfl hb7893) <| WL.nil <| QN.order [2, 1, 0] rfl ?_
     exact QN.weaken (.one rfl (.one rfl (.one rfl (.one rfl (.one rfl (.one rfl (.one rfl (.one rfl (.nil _))))))))) (Kj7820 () true h)
    ·refine WL.q (Wanted.on rfl rfl rfl hb7893) rfl rfl (.s 11 rfl .nil) (q_move rfl).o <| WL.q (Wanted.on rfl rfl rfl hb7893) rfl rfl (.s 3 rfl .nil) (q_field rfl fo36_1 rfl).o <| WL.q (Wanted.on rfl rfl rfl hb7893) rfl rfl (.s 45 rfl .nil) (q_load rfl sh34).o <| WL.q (Wanted.on rfl rfl rfl hb7893) rfl rfl (.s 46 rfl .nil) (q_len rfl elS34).o ?_
     obtain ⟨c7894, h⟩ := ite_n h
     refine WL.q (Wanted.on rfl rfl rfl hb7893) rfl rfl (.s 44 rfl (.s 47 rfl .nil)) (q_addR rfl c7894).o <| WL.q (Wanted.on rfl rfl rfl hb7893) rfl rfl (.s 48 rfl (.k .nil)) (q_int rfl rfl).o <| WL.p rfl rfl rfl (.s 43 rfl (.s 49 rfl .nil)) (q_pickF rfl hb7893) <| WL.nil <| QN.order [2, 1, 0] rfl ?_
     exact QN.weaken (.one rfl (.one rfl (.one rfl (.one rfl (.one rfl (.one rfl (.one rfl (.one rfl (.nil _))))))))) (Kj7820 () (decide (((a0.fEdges.length : Int) + (a1.fEdges.length : Int)) > 80)) h)
end Go.Proofs.Ytelpgjfojhcjcaa
