/- The Go functions compute the pure ones. (Printed by gen.py.) -/
import Derived.Test.YtelpgjfojhcjcaaC7
namespace Go.Proofs.Ytelpgjfojhcjcaa
open Go Go.Abs
attribute [local irreducible] Try.prog
theorem ref02_SameInts.con (k : Nat) (a0 : (List Int)) (a1 : (List Int)) (r : Bool) (h : ref02_SameInts k a0 a1 = some r) : Con Try.prog 26 [] [SlcA kInt a0, SlcA kInt a1] (RA (EqA (.bool r))) := by
 unfold ref02_SameInts at h
 refine Con.of (N := 26) Try.func26 rfl rfl rfl fun w0_ fg_ => W.seq <| W.region <| WL.p rfl rfl rfl (.k .nil) (q_assign rfl) <| WL.nil <| QN.then_ <| W.seq <| W.seq <| W.region <| WL.p rfl rfl rfl (.s 0 rfl .nil) (q_move rfl) <| WL.p rfl rfl rfl (.s 6 rfl .nil) (q_len rfl elS33) <| WL.p rfl rfl rfl (.s 1 rfl .nil) (q_move rfl) <| WL.p rfl rfl rfl (.s 8 rfl .nil) (q_len rfl elS33) ?_
 refine WL.p rfl rfl rfl (.s 7 rfl (.s 9 rfl .nil)) (q_int rfl rfl) <| WL.nil <| QN.then_ ?_
 refine W.condP h rfl (fun hb7895 h => ?_) (fun hb7895 h => ?_)
 ·refine W.seq <| W.region <| WL.p rfl rfl rfl (.k .nil) (q_assign rfl) <| WL.nil <| QN.weaken (env' := [(4, _)]) (.one rfl (.nil _)) <| QN.then_ <| W.ret <| QR.then_ ?_
  cases h
  exact QR.f1 rfl rfl (.t rfl) (.id _)
 ·refine W.skip <| QN.then_ <| W.seq <| W.seq <| W.region <| WL.p rfl rfl rfl (.k .nil) (q_assign rfl) <| WL.nil <| QN.then_ <| W.block ?_
  refine W.loop1 (Γ := Unit) (fun (_ : Unit) (x5 : Int) => [(0, SlcA kInt a0), (1, SlcA kInt a1), (5, EqA (.int .i64 x5))]) (fun (_ : Unit) (_ : Int) => []) h () (.one rfl (.one rfl (.one rfl (.nil _)))) rfl (fun rec0 K0 next0 _ x5 h => ?_)
  unfold ref02_SameInts.b0 at h
  refine W.seq <| W.seq <| W.region <| WL.p rfl rfl rfl (.s 5 rfl .nil) (q_move rfl) <| WL.p rfl rfl rfl (.s 0 rfl .nil) (q_move rfl) <| WL.p rfl rfl rfl (.s 12 rfl .nil) (q_len rfl elS33) <| WL.p rfl rfl rfl (.s 11 rfl (.s 13 rfl .nil)) (q_int rfl rfl) <| WL.nil <| QN.then_ ?_
  refine W.condP h rfl (fun hb7914 h => ?_) (fun hb7914 h => ?_)
  ·refine W.skip <| QN.then_ <| W.seq <| W.block <| W.seq <| W.drawK [(0, false), (1, false), (2, false), (3, false), (4, false), (5, false), (6, false), (7, false), (8, false)] [] [[], [], [0, 1], [0, 1, 2], [], [], [4, 5], [4, 5, 6], [0, 1, 2, 3, 4, 5, 6, 7]] mx (by kernel_rfl) <| DK.cons rfl rfl (.p rfl (.s 0 rfl .nil) rfl (q_move rfl)) <| DK.cons rfl rfl (.p rfl (.s 5 rfl .nil) rfl (q_move rfl)) ?_
   obtain ⟨c7919, h⟩ := ite_n h
   refine DK.cons rfl rfl (.p rfl (.s 17 rfl (.s 18 rfl .nil)) rfl (q_index rfl el33 rfl c7919.1 c7919.2)) <| DK.cons rfl rfl (.p rfl (.s 19 rfl .nil) rfl (q_load rfl sh3)) <| DK.cons rfl rfl (.p rfl (.s 1 rfl .nil) rfl (q_move rfl)) <| DK.cons rfl rfl (.p rfl (.s 5 rfl .nil) rfl (q_move rfl)) ?_
   obtain ⟨c7920, h⟩ := ite_n h
   refine DK.cons rfl rfl (.p rfl (.s 21 rfl (.s 22 rfl .nil)) rfl (q_index rfl el33 rfl c7920.1 c7920.2)) <| DK.cons rfl rfl (.p rfl (.s 23 rfl .nil) rfl (q_load rfl sh3)) <| DK.cons rfl rfl (.p rfl (.s 20 rfl (.s 24 rfl .nil)) rfl (q_int rfl rfl)) <| DK.nil <| CSteps.nil <| QN.weaken (env' := [(25, _), (5, _), (1, _), (0, _)]) (.one rfl (.one rfl (.one rfl (.one rfl (.nil _))))) <| QN.then_ ?_
   refine W.condP h rfl (fun hb7921 h => ?_) (fun hb7921 h => ?_)
   ·refine W.seq <| W.region <| WL.p rfl rfl rfl (.k .nil) (q_assign rfl) <| WL.nil <| QN.then_ <| W.ret <| QR.block <| QR.then_ <| QR.then_ <| QR.block <| QR.then_ ?_
    cases h
    exact QR.f1 rfl rfl (.t rfl) (.id _)
   ·refine W.skip <| QN.block <| QN.then_ <| W.region <| WL.p rfl rfl rfl (.s 5 rfl .nil) (q_move rfl) ?_
    obtain ⟨c7922, h⟩ := ite_n h
    refine WL.p rfl rfl rfl (.s 15 rfl (.k .nil)) (q_addR rfl c7922) <| WL.p rfl rfl rfl (.s 16 rfl .nil) (q_assign rfl) <| WL.nil ?_
    exact next0 () (x5 + 1) _ h (.one rfl (.one rfl (.one rfl (.nil _))))
  ·refine W.exit <| QX.then_ <| QX.then_ <| QX.here <| QN.weaken (env' := []) (.nil _) <| QN.then_ <| W.seq <| W.region <| WL.p rfl rfl rfl (.k .nil) (q_assign rfl) <| WL.nil <| QN.then_ <| W.ret ?_
   cases h
   exact QR.f1 rfl rfl (.t rfl) (.id _)
theorem ref06_Same.con (k : Nat) (a0 : Morphism) (a1 : Morphism) (r : Bool) (h : ref06_Same k a0 a1 = some r) : Con Try.prog 11 [] [AggA [SlcA kInt a0.fNodes, SlcA kInt a0.fEdges], AggA [SlcA kInt a1.fNodes, SlcA kInt a1.fEdges]] (RA (EqA (.bool r))) := by
 unfold ref06_Same at h
 refine Con.of (N := 17) Try.func11 rfl rfl rfl fun w0_ fg_ => W.seq <| W.region <| WL.p rfl rfl rfl (.s 0 rfl .nil) (q_box rfl (CellsOf.agg _)) <| WL.p rfl rfl rfl (.s 1 rfl .nil) (q_box rfl (CellsOf.agg _)) <| WL.p rfl rfl rfl (.k .nil) (q_assign rfl) <| WL.nil <| QN.then_ <| W.seq ?_
 refine W.jn1 (Γ := Unit) (fun (_ : Unit) (x4 : Bool) => [(4, EqA (.bool x4))]) (fun (_ : Unit) (_ : Bool) => []) h (fun _ x4 h => ?_) (fun j7927 Kj7927 h => ?_)
 ·refine QN.then_ <| W.ret ?_
  cases h
  exact QR.f1 rfl rfl (.t rfl) (.id _)
 ·refine W.region <| WL.p rfl rfl rfl (.s 2 rfl .nil) (q_field rfl fo41_0 rfl) <| WL.p rfl rfl rfl (.s 5 rfl .nil) (q_load rfl sh33) <| WL.p rfl rfl rfl (.s 3 rfl .nil) (q_field rfl fo41_0 rfl) <| WL.p rfl rfl rfl (.s 7 rfl .nil) (q_load rfl sh33) ?_
  obtain ⟨t7928, ht7928, h⟩ := bind_s h
  refine WL.p rfl rfl rfl (.s 6 rfl (.s 8 rfl .nil)) (q_call (f := 26) (A := EqA (.bool t7928)) (xs := [.tmp 6, .tmp 8]) («as» := [SlcA kInt a0.fNodes, SlcA kInt a1.fNodes]) rfl ca26 (ref02_SameInts.con k a0.fNodes a1.fNodes t7928 ht7928) rfl) <| WL.p rfl rfl rfl (.s 9 rfl .nil) (q_move rfl) ?_
  rcases bif_s h with ⟨hb7929, h⟩ | ⟨hb7929, h⟩
  ·refine WL.q (Wanted.on rfl rfl rfl hb7929) rfl rfl (.s 2 rfl .nil) (q_field rfl fo41_1 rfl).o <| WL.q (Wanted.on rfl rfl rfl hb7929) rfl rfl (.s 11 rfl .nil) (q_load rfl sh33).o <| WL.q (Wanted.on rfl rfl rfl hb7929) rfl rfl (.s 3 rfl .nil) (q_field rfl fo41_1 rfl).o <| WL.q (Wanted.on rfl rfl rfl hb7929) rfl rfl (.s 13 rfl .nil) (q_load rfl sh33).o ?_
   obtain ⟨t7930, ht7930, h⟩ := bind_s h
   refine WL.q (Wanted.on rfl rfl rfl hb7929) rfl rfl (.s 12 rfl (.s 14 rfl .nil)) (q_call (f := 26) (A := EqA (.bool t7930)) (xs := [.tmp 12, .tmp 14]) («as» := [SlcA kInt a0.fEdges, SlcA kInt a1.fEdges]) rfl ca26 (ref02_SameInts.con k a0.fEdges a1.fEdges t7930 ht7930) rfl).o <| WL.p rfl rfl rfl (.s 10 rfl (.s 15 rfl .nil)) (q_pickT rfl hb7929) <| WL.p rfl rfl rfl (.s 16 rfl .nil) (q_assign rfl) <| WL.nil ?_
   exact QN.weaken (.one rfl (.nil _)) (Kj7927 () t7930 h)
  ·refine WL.skip (Unwanted.on rfl rfl rfl hb7929) rfl rfl <| WL.skip (Unwanted.on rfl rfl rfl hb7929) rfl rfl <| WL.skip (Unwanted.on rfl rfl rfl hb7929) rfl rfl <| WL.skip (Unwanted.on rfl rfl rfl hb7929) rfl rfl <| WL.skip (Unwanted.on rfl rfl rfl hb7929) rfl rfl <| WL.p rfl rfl rfl (.s 10 rfl (.k .nil)) (q_pickF rfl hb7929) <| WL.p rfl rfl rfl (.s 16 rfl .nil) (q_assign rfl) <| WL.nil ?_
   exact QN.weaken (.one rfl (.nil _)) (Kj7927 () false h)
theorem law17_SearchLarger_1.con (k : Nat) (a0 : Morphism) (a1 : Morphism) (r : Bool) (h : law17_SearchLarger_1 k a0 a1 = some r) : Con Try.prog 10 [] [AggA [SlcA kInt a0.fNodes, SlcA kInt a0.fEdges], PtrA [SlcA kInt a1.fNodes, SlcA kInt a1.fEdges]] (RA (EqA (.bool r))) := by
 unfold law17_SearchLarger_1 at h
 refine Con.of (N := 7) Try.func10 rfl rfl rfl fun w0_ fg_ => W.seq <| W.region <| WL.p rfl rfl rfl (.s 0 rfl .nil) (q_box rfl (CellsOf.agg _)) <| WL.p rfl rfl rfl (.k .nil) (q_assign rfl) <| WL.nil <| QN.then_ <| W.seq <| W.region <| WL.p rfl rfl rfl (.s 2 rfl .nil) (q_loadS rfl sh41 (leB rfl) rfl) <| WL.p rfl rfl rfl (.s 1 rfl .nil) (q_loadS rfl sh41 (leB rfl) rfl) ?_
 obtain ⟨t7931, ht7931, h⟩ := bind_s h
 refine WL.p rfl rfl rfl (.s 4 rfl (.s 5 rfl .nil)) (q_call (f := 11) (A := EqA (.bool t7931)) (xs := [.tmp 4, .tmp 5]) («as» := [AggA [SlcA kInt a0.fNodes, SlcA kInt a0.fEdges], AggA [SlcA kInt a1.fNodes, SlcA kInt a1.fEdges]]) rfl ca11 (ref06_Same.con k a0 a1 t7931 ht7931) rfl) <| WL.p rfl rfl rfl (.s 6 rfl .nil) (q_assign rfl) <| WL.nil <| QN.then_ <| W.ret ?_
 cases h
 exact QR.f1 rfl rfl (.t rfl) (.id _)
theorem slices_IndexFunc_Morphism.con (k : Nat) (a0 : (List Morphism)) (a1 : (Morphism → Option Bool)) (r : Int) (h : slices_IndexFunc_Morphism k a0 a1 = some r) : Con Try.prog 25 [] [SlcA kMorphism a0, FnA Try.prog (fun (x : Morphism) => [AggA [SlcA kInt x.fNodes, SlcA kInt x.fEdges]]) (fun (y : Bool) => EqA (.bool y)) a1] (RA (EqA (.int .i64 r))) := by
 unfold slices_IndexFunc_Morphism at h
 refine Con.of (N := 19) Try.func25 rfl rfl rfl fun w0_ fg_ => W.seq <| W.region <| WL.p rfl rfl rfl (.k .nil) (q_assign rfl) <| WL.nil <| QN.then_ <| W.seq <| W.seq <| W.region <| WL.p rfl rfl rfl (.s 0 rfl .nil) (q_move rfl) <| WL.p rfl rfl rfl (.s 6 rfl .nil) (q_len rfl elS46) <| WL.p rfl rfl rfl (.k .nil) (q_move rfl) <| WL.nil ?_
 refine QN.then_ <| W.block ?_
 refine W.loop1 (Γ := Unit) (fun (_ : Unit) (x8 : Int) => [(0, SlcA kMorphism a0), (1, FnA Try.prog (fun (x : Morphism) => [AggA [SlcA kInt x.fNodes, SlcA kInt x.fEdges]]) (fun (y : Bool) => EqA (.bool y)) a1), (7, EqA (.int .i64 (a0.length : Int))), (8, EqA (.int .i64 x8))]) (fun (_ : Unit) (_ : Int) => []) h () (.one rfl (.one rfl (.one rfl (.one rfl (.nil _))))) rfl (fun rec0 K0 next0 _ x8 h => ?_)
 unfold slices_IndexFunc_Morphism.b0 at h
 refine W.seq <| W.region <| WL.p rfl rfl rfl (.s 8 rfl (.s 7 rfl .nil)) (q_int rfl rfl) <| WL.nil <| QN.then_ <| W.seq ?_
 refine W.condP h rfl (fun hb7942 h => ?_) (fun hb7942 h => ?_)
 ·refine W.skip <| QN.then_ <| W.seq <| W.block <| W.seq <| W.region <| WL.p rfl rfl rfl (.s 8 rfl .nil) (q_move rfl) <| WL.p rfl rfl rfl (.s 10 rfl .nil) (q_assign rfl) <| WL.nil <| QN.then_ <| W.seq <| W.region <| WL.p rfl rfl rfl (.s 1 rfl .nil) (q_move rfl) ?_
  refine WL.p rfl rfl rfl (.s 0 rfl .nil) (q_move rfl) <| WL.p rfl rfl rfl (.s 5 rfl .nil) (q_move rfl) ?_
  obtain ⟨c7943, h⟩ := ite_n h
  refine WL.p rfl rfl rfl (.s 12 rfl (.s 13 rfl .nil)) (q_index rfl el46 rfl c7943.1 c7943.2) <| WL.p rfl rfl rfl (.s 14 rfl .nil) (q_loadS rfl sh41 (leB rfl) rfl) ?_
  obtain ⟨t7944, ht7944, h⟩ := bind_s h
  refine WL.p rfl rfl rfl (.s 11 rfl (.s 15 rfl .nil)) (q_callV («as» := fun (x : Morphism) => [AggA [SlcA kInt x.fNodes, SlcA kInt x.fEdges]]) (res := fun (y : Bool) => EqA (.bool y)) (x := (rd a0 x8)) (y := t7944) (xs := [.tmp 15]) rfl ht7944 rfl) <| WL.nil <| QN.weaken (env' := [(16, _), (5, _), (8, _), (7, _), (1, _), (0, _)]) (.one rfl (.one rfl (.one rfl (.one rfl (.one rfl (.one rfl (.nil _))))))) <| QN.then_ ?_
  refine W.condP h rfl (fun hb7945 h => ?_) (fun hb7945 h => ?_)
  ·refine W.seq <| W.region <| WL.p rfl rfl rfl (.s 5 rfl .nil) (q_move rfl) <| WL.p rfl rfl rfl (.s 17 rfl .nil) (q_assign rfl) <| WL.nil <| QN.weaken (env' := [(4, _)]) (.one rfl (.nil _)) <| QN.then_ <| W.ret <| QR.block <| QR.then_ <| QR.then_ <| QR.block <| QR.then_ ?_
   cases h
   exact QR.f1 rfl rfl (.t rfl) (.id _)
  ·refine W.skip <| QN.block <| QN.then_ <| W.region ?_
   obtain ⟨c7946, h⟩ := ite_n h
   refine WL.p rfl rfl rfl (.s 8 rfl (.k .nil)) (q_addR rfl c7946) <| WL.p rfl rfl rfl (.s 18 rfl .nil) (q_move rfl) <| WL.nil ?_
   exact next0 () (x8 + 1) _ h (.one rfl (.one rfl (.one rfl (.one rfl (.nil _)))))
 ·refine W.exit <| QX.then_ <| QX.then_ <| QX.here <| QN.then_ <| W.seq <| W.region <| WL.p rfl rfl rfl (.k .nil) (q_assign rfl) <| WL.nil <| QN.then_ <| W.ret ?_
  cases h
  exact QR.f1 rfl rfl (.t rfl) (.id _)
theorem slices_ContainsFunc_Morphism.con (k : Nat) (a0 : (List Morphism)) (a1 : (Morphism → Option Bool)) (r : Bool) (h : slices_ContainsFunc_Morphism k a0 a1 = some r) : Con Try.prog 9 [] [SlcA kMorphism a0, FnA Try.prog (fun (x : Morphism) => [AggA [SlcA kInt x.fNodes, SlcA kInt x.fEdges]]) (fun (y : Bool) => EqA (.bool y)) a1] (RA (EqA (.bool r))) := by
 unfold slices_ContainsFunc_Morphism at h
 refine Con.of (N := 9) Try.func9 rfl rfl rfl fun w0_ fg_ => W.seq <| W.region <| WL.p rfl rfl rfl (.k .nil) (q_assign rfl) <| WL.nil <| QN.then_ <| W.seq <| W.region <| WL.p rfl rfl rfl (.s 0 rfl .nil) (q_move rfl) <| WL.p rfl rfl rfl (.s 1 rfl .nil) (q_move rfl) ?_
 obtain ⟨t7947, ht7947, h⟩ := bind_s h
 refine WL.p rfl rfl rfl (.s 5 rfl (.s 6 rfl .nil)) (q_call (f := 25) (A := EqA (.int .i64 t7947)) (xs := [.tmp 5, .tmp 6]) («as» := [SlcA kMorphism a0, FnA Try.prog (fun (x : Morphism) => [AggA [SlcA kInt x.fNodes, SlcA kInt x.fEdges]]) (fun (y : Bool) => EqA (.bool y)) a1]) rfl ca25 (slices_IndexFunc_Morphism.con k a0 a1 t7947 ht7947) rfl) <| WL.p rfl rfl rfl (.s 7 rfl (.k .nil)) (q_int rfl rfl) <| WL.p rfl rfl rfl (.s 8 rfl .nil) (q_assign rfl) <| WL.nil <| QN.then_ <| W.ret ?_
 cases h
 exact QR.f1 rfl rfl (.t rfl) (.id _)
theorem law17_SearchLarger.con (k : Nat) (a0 : Drafts) (a1 : Draft) (a2 : Bool) (r : Bool) (h : law17_SearchLarger k a0 a1 a2 = some r) : Con Try.prog 3 [] [AggA [SlcA kA2Int a0.fNodes, SlcA kA2Int a0.fEdges, SlcA kU8 a0.fP.fNodes, SlcA kA3Int a0.fP.fEdges, SlcA kU8 a0.fG.fNodes, SlcA kA3Int a0.fG.fEdges], AggA [SlcA kU8 a1.fNodes, SlcA kA3Int a1.fEdges], EqA (.bool a2)] (RA (EqA (.bool r))) := by
 unfold law17_SearchLarger at h
 refine Con.of (N := 108) Try.func3 rfl rfl rfl fun w0_ fg_ => W.seq <| W.region <| WL.p rfl rfl rfl (.s 0 rfl .nil) (q_box rfl (CellsOf.agg _)) <| WL.p rfl rfl rfl (.s 1 rfl .nil) (q_box rfl (CellsOf.agg _)) <| WL.p rfl rfl rfl (.k .nil) (q_assign rfl) <| WL.nil <| QN.then_ <| W.seq <| W.region <| WL.p rfl rfl rfl (.s 3 rfl .nil) (q_loadS rfl sh28 (leB rfl) rfl) ?_
 obtain ⟨t7948, ht7948, h⟩ := bind_s h
 refine WL.p rfl rfl rfl (.s 22 rfl .nil) (q_call (f := 4) (A := TupA [AggA [SlcA kNodeType t7948.1.fNodes, SlcA kEdgeType t7948.1.fEdges], AggA [SlcA kInt t7948.2.1.fNodes, SlcA kEdge t7948.2.1.fEdges], AggA [SlcA kInt t7948.2.2.1.fNodes, SlcA kEdge t7948.2.2.1.fEdges], EqA (.bool t7948.2.2.2)]) (xs := [.tmp 22]) («as» := [AggA [SlcA kA2Int a0.fNodes, SlcA kA2Int a0.fEdges, SlcA kU8 a0.fP.fNodes, SlcA kA3Int a0.fP.fEdges, SlcA kU8 a0.fG.fNodes, SlcA kA3Int a0.fG.fEdges]]) rfl ca4 (law17_Drafts_parts.con k a0 t7948 ht7948) rfl) <| WL.p rfl rfl rfl (.s 23 rfl .nil) (q_move rfl) <| WL.p rfl rfl rfl (.s 21 rfl .nil) (q_extract rfl rfl) <| WL.p rfl rfl rfl (.s 21 rfl .nil) (q_extract rfl rfl) <| WL.p rfl rfl rfl (.s 21 rfl .nil) (q_extract rfl rfl) <| WL.p rfl rfl rfl (.s 21 rfl .nil) (q_extract rfl rfl) <| WL.w [] rfl (Wanted.plain rfl) rfl rfl .nil (w_alloc rfl z32 (l := [EqA (.slice none 0 0), EqA (.slice none 0 0)]) rfl) ?_
 rintro _ _ ⟨b7949, rfl, rfl⟩
 refine WL.w [] rfl (Wanted.plain rfl) rfl rfl .nil (w_alloc rfl z36 (l := [EqA (.slice none 0 0), EqA (.slice none 0 0)]) rfl) ?_
 rintro _ _ ⟨b7950, rfl, rfl⟩
 refine WL.w [] rfl (Wanted.plain rfl) rfl rfl .nil (w_alloc rfl z36 (l := [EqA (.slice none 0 0), EqA (.slice none 0 0)]) rfl) ?_
 rintro _ _ ⟨b7951, rfl, rfl⟩
 refine WL.w0 [2] rfl (Wanted.plain rfl) rfl (.s 7 rfl (.s 24 rfl .nil)) (w_store (L := [SlcA kNodeType t7948.1.fNodes, SlcA kEdgeType t7948.1.fEdges]) rfl sh32 (CellsOf.agg _) rfl rfl (leB rfl) rfl) ?_
 rintro _ _ ⟨rfl, rfl⟩
 refine WL.w0 [2] rfl (Wanted.plain rfl) rfl (.s 8 rfl (.s 25 rfl .nil)) (w_store (L := [SlcA kInt t7948.2.1.fNodes, SlcA kEdge t7948.2.1.fEdges]) rfl sh36 (CellsOf.agg _) rfl rfl (leB rfl) rfl) ?_
 rintro _ _ ⟨rfl, rfl⟩
 refine WL.w0 [2] rfl (Wanted.plain rfl) rfl (.s 9 rfl (.s 26 rfl .nil)) (w_store (L := [SlcA kInt t7948.2.2.1.fNodes, SlcA kEdge t7948.2.2.1.fEdges]) rfl sh36 (CellsOf.agg _) rfl rfl (leB rfl) rfl) ?_
 rintro _ _ ⟨rfl, rfl⟩
 refine WL.p rfl rfl rfl (.s 27 rfl .nil) (q_assign rfl) <| WL.nil <| QN.to (StTo.still [2] 7 rfl rfl) <| QN.to (StTo.still [1] 8 rfl rfl) <| QN.to (StTo.still [0] 9 rfl rfl) <| QN.weaken (env' := [(10, _), (9, _), (8, _), (7, _), (4, _), (2, _)]) (.one rfl (.one rfl (.one rfl (.one rfl (.one rfl (.one rfl (.nil _))))))) <| QN.then_ <| W.seq <| W.seq ?_
 refine W.jn1 (Γ := Unit) (fun (_ : Unit) (x45 : Bool) => [(2, EqA (.bool a2)), (4, PtrA [SlcA kU8 a1.fNodes, SlcA kA3Int a1.fEdges]), (7, PtrA [SlcA kNodeType t7948.1.fNodes, SlcA kEdgeType t7948.1.fEdges]), (8, PtrA [SlcA kInt t7948.2.1.fNodes, SlcA kEdge t7948.2.1.fEdges]), (9, PtrA [SlcA kInt t7948.2.2.1.fNodes, SlcA kEdge t7948.2.2.1.fEdges]), (45, EqA (.bool x45))]) (fun (_ : Unit) (_ : Bool) => []) h (fun _ x45 h => ?_) (fun j7957 Kj7957 h => ?_)
 ·refine QN.then_ ?_
  refine W.condP h rfl (fun hb7958 h => ?_) (fun hb7958 h => ?_)
  ·refine W.seq <| W.region ?_
   obtain ⟨t7959, ht7959, h⟩ := bind_s h
   refine WL.p rfl rfl rfl .nil (q_call (f := 5) (A := EqA (.bool t7959)) (xs := []) («as» := []) rfl ca5 (law17_awake.con k  t7959 ht7959) rfl) <| WL.p rfl rfl rfl (.s 46 rfl .nil) (q_assign rfl) <| WL.nil <| QN.weaken (env' := [(6, _)]) (.one rfl (.nil _)) <| QN.then_ <| W.ret <| QR.then_ ?_
   cases h
   exact QR.f1 rfl rfl (.t rfl) (.id _)
  ·refine W.skip <| QN.then_ <| W.seq ?_
   refine W.jn3 (Γ := Unit) (fun (_ : Unit) (x11_0 : (List Int)) (x11_1 : (List Edge)) (x14 : Int) => [(2, EqA (.bool a2)), (7, PtrA [SlcA kNodeType t7948.1.fNodes, SlcA kEdgeType t7948.1.fEdges]), (8, PtrA [SlcA kInt t7948.2.1.fNodes, SlcA kEdge t7948.2.1.fEdges]), (9, PtrA [SlcA kInt t7948.2.2.1.fNodes, SlcA kEdge t7948.2.2.1.fEdges]), (11, PtrA [SlcA kInt x11_0, SlcA kEdge x11_1]), (14, EqA (.int .i64 x14))]) (fun (_ : Unit) (_ : (List Int)) (_ : (List Edge)) (_ : Int) => []) h (fun _ x11_0 x11_1 x14 h => ?_) (fun j7971 Kj7971 h => ?_)
   ·refine QN.then_ <| W.seq <| W.region <| WL.p rfl rfl rfl (.s 7 rfl .nil) (q_loadS rfl sh32 (leB rfl) rfl) <| WL.p rfl rfl rfl (.s 8 rfl .nil) (q_loadS rfl sh36 (leB rfl) rfl) <| WL.p rfl rfl rfl (.s 9 rfl .nil) (q_loadS rfl sh36 (leB rfl) rfl) <| WL.p rfl rfl rfl (.s 2 rfl .nil) (q_move rfl) ?_
    obtain ⟨t7972, ht7972, h⟩ := bind_s h
    refine WL.p rfl rfl rfl (.s 58 rfl (.s 59 rfl (.s 60 rfl (.s 61 rfl .nil)))) (q_call (f := 8) (A := TupA [SlcA kMorphism t7972.1, EqA (.int .i64 t7972.2)]) (xs := [.tmp 58, .tmp 59, .tmp 60, .tmp 61]) («as» := [AggA [SlcA kNodeType t7948.1.fNodes, SlcA kEdgeType t7948.1.fEdges], AggA [SlcA kInt t7948.2.1.fNodes, SlcA kEdge t7948.2.1.fEdges], AggA [SlcA kInt t7948.2.2.1.fNodes, SlcA kEdge t7948.2.2.1.fEdges], EqA (.bool a2)]) rfl ca8 (search_All.con k t7948.1 t7948.2.1 t7948.2.2.1 a2 t7972 ht7972) rfl) <| WL.p rfl rfl rfl (.s 62 rfl .nil) (q_move rfl) <| WL.p rfl rfl rfl (.s 57 rfl .nil) (q_extract rfl rfl) <| WL.p rfl rfl rfl (.s 57 rfl .nil) (q_extract rfl rfl) <| WL.p rfl rfl rfl (.s 63 rfl .nil) (q_assign rfl) <| WL.p rfl rfl rfl (.s 64 rfl .nil) (q_assign rfl) <| WL.nil <| QN.weaken (env' := [(16, _), (15, _), (14, _), (11, _), (8, _), (7, _), (2, _)]) (.one rfl (.one rfl (.one rfl (.one rfl (.one rfl (.one rfl (.one rfl (.nil _)))))))) <| QN.then_ <| W.seq <| W.region <| WL.p rfl rfl rfl (.s 7 rfl .nil) (q_loadS rfl sh32 (leB rfl) rfl) <| WL.p rfl rfl rfl (.s 8 rfl .nil) (q_loadS rfl sh36 (leB rfl) rfl) ?_
    refine WL.p rfl rfl rfl (.s 11 rfl .nil) (q_loadS rfl sh36 (leB rfl) rfl) <| WL.p rfl rfl rfl (.s 2 rfl .nil) (q_move rfl) ?_
    obtain ⟨t7973, ht7973, h⟩ := bind_s h
    refine WL.p rfl rfl rfl (.s 66 rfl (.s 67 rfl (.s 68 rfl (.s 69 rfl .nil)))) (q_call (f := 8) (A := TupA [SlcA kMorphism t7973.1, EqA (.int .i64 t7973.2)]) (xs := [.tmp 66, .tmp 67, .tmp 68, .tmp 69]) («as» := [AggA [SlcA kNodeType t7948.1.fNodes, SlcA kEdgeType t7948.1.fEdges], AggA [SlcA kInt t7948.2.1.fNodes, SlcA kEdge t7948.2.1.fEdges], AggA [SlcA kInt x11_0, SlcA kEdge x11_1], EqA (.bool a2)]) rfl ca8 (search_All.con k t7948.1 t7948.2.1 (Graph.mk x11_0 x11_1) a2 t7973 ht7973) rfl) <| WL.p rfl rfl rfl (.s 70 rfl .nil) (q_move rfl) <| WL.p rfl rfl rfl (.s 65 rfl .nil) (q_extract rfl rfl) <| WL.p rfl rfl rfl (.s 65 rfl .nil) (q_extract rfl rfl) <| WL.p rfl rfl rfl (.s 71 rfl .nil) (q_assign rfl) <| WL.p rfl rfl rfl (.s 72 rfl .nil) (q_assign rfl) <| WL.nil <| QN.weaken (env' := [(18, _), (17, _), (16, _), (15, _), (14, _)]) (.one rfl (.one rfl (.one rfl (.one rfl (.one rfl (.nil _)))))) <| QN.then_ <| W.seq <| W.seq ?_
    refine W.jn1 (Γ := Unit) (fun (_ : Unit) (x82 : Bool) => [(14, EqA (.int .i64 x14)), (15, SlcA kMorphism t7972.1), (16, EqA (.int .i64 t7972.2)), (17, SlcA kMorphism t7973.1), (18, EqA (.int .i64 t7973.2)), (82, EqA (.bool x82))]) (fun (_ : Unit) (_ : Bool) => []) h (fun _ x82 h => ?_) (fun j7977 Kj7977 h => ?_)
    ·refine QN.then_ ?_
     refine W.condP h rfl (fun hb7978 h => ?_) (fun hb7978 h => ?_)
     ·refine W.seq ?_
      refine W.jn1 (Γ := Unit) (fun (_ : Unit) (x6 : Bool) => [(6, EqA (.bool x6))]) (fun (_ : Unit) (_ : Bool) => []) h (fun _ x6 h => ?_) (fun j7983 Kj7983 h => ?_)
      ·refine QN.then_ <| W.ret <| QR.then_ ?_
       cases h
       exact QR.f1 rfl rfl (.t rfl) (.id _)
      ·refine W.region <| WL.p rfl rfl rfl (.s 14 rfl .nil) (q_move rfl) <| WL.p rfl rfl rfl (.s 83 rfl (.k .nil)) (q_int rfl rfl) <| WL.p rfl rfl rfl (.s 84 rfl .nil) (q_move rfl) ?_
       rcases bif_s h with ⟨hb7984, h⟩ | ⟨hb7984, h⟩
       ·refine WL.q (Wanted.on rfl rfl rfl hb7984) rfl rfl (.s 16 rfl .nil) (q_move rfl).o <| WL.q (Wanted.on rfl rfl rfl hb7984) rfl rfl (.s 86 rfl (.k .nil)) (q_int rfl rfl).o <| WL.q (Wanted.on rfl rfl rfl hb7984) rfl rfl (.s 87 rfl .nil) (q_move rfl).o ?_
        rcases bif_s h with ⟨hb7985, h⟩ | ⟨hb7985, h⟩
        ·refine WL.skip (Unwanted.on rfl rfl rfl hb7985) rfl rfl <| WL.skip (Unwanted.on rfl rfl rfl hb7985) rfl rfl <| WL.q (Wanted.on rfl rfl rfl hb7984) rfl rfl (.s 88 rfl (.k .nil)) (q_pickT rfl hb7985).o <| WL.p rfl rfl rfl (.s 85 rfl (.s 91 rfl .nil)) (q_pickT rfl hb7984) <| WL.p rfl rfl rfl (.s 92 rfl .nil) (q_move rfl) <| WL.q (Wanted.on rfl rfl rfl rfl) rfl rfl (.s 18 rfl .nil) (q_move rfl).o <| WL.q (Wanted.on rfl rfl rfl rfl) rfl rfl (.s 94 rfl (.k .nil)) (q_int rfl rfl).o <| WL.p rfl rfl rfl (.s 93 rfl (.s 95 rfl .nil)) (q_pickT rfl rfl) <| WL.p rfl rfl rfl (.s 96 rfl .nil) (q_assign rfl) <| WL.nil ?_
         exact QN.weaken (.one rfl (.nil _)) (Kj7983 () (t7973.2 == 3) h)
        ·refine WL.q (Wanted.on rfl rfl rfl hb7985) rfl rfl (.s 16 rfl .nil) (q_move rfl).o <| WL.q (Wanted.on rfl rfl rfl hb7985) rfl rfl (.s 89 rfl (.k .nil)) (q_int rfl rfl).o <| WL.q (Wanted.on rfl rfl rfl hb7984) rfl rfl (.s 88 rfl (.s 90 rfl .nil)) (q_pickF rfl hb7985).o <| WL.p rfl rfl rfl (.s 85 rfl (.s 91 rfl .nil)) (q_pickT rfl hb7984) <| WL.p rfl rfl rfl (.s 92 rfl .nil) (q_move rfl) ?_
         rcases bif_s h with ⟨hb7986, h⟩ | ⟨hb7986, h⟩
         ·refine WL.q (Wanted.on rfl rfl rfl hb7986) rfl rfl (.s 18 rfl .nil) (q_move rfl).o <| WL.q (Wanted.on rfl rfl rfl hb7986) rfl rfl (.s 94 rfl (.k .nil)) (q_int rfl rfl).o <| WL.p rfl rfl rfl (.s 93 rfl (.s 95 rfl .nil)) (q_pickT rfl hb7986) <| WL.p rfl rfl rfl (.s 96 rfl .nil) (q_assign rfl) <| WL.nil ?_
          exact QN.weaken (.one rfl (.nil _)) (Kj7983 () (t7973.2 == 3) h)
         ·refine WL.skip (Unwanted.on rfl rfl rfl hb7986) rfl rfl <| WL.skip (Unwanted.on rfl rfl rfl hb7986) rfl rfl <| WL.p rfl rfl rfl (.s 93 rfl (.k .nil)) (q_pickF rfl hb7986) <| WL.p rfl rfl rfl (.s 96 rfl .nil) (q_assign rfl) <| WL.nil ?_
          exact QN.weaken (.one rfl (.nil _)) (Kj7983 () false h)
       ·refine WL.skip (Unwanted.on rfl rfl rfl hb7984) rfl rfl <| WL.skip (Unwanted.on rfl rfl rfl hb7984) rfl rfl <| WL.skip (Unwanted.on rfl rfl rfl hb7984) rfl rfl <| WL.skip (Unwanted.und rfl rfl rfl) rfl rfl <| WL.skip (Unwanted.und rfl rfl rfl) rfl rfl <| WL.skip (Unwanted.on rfl rfl rfl hb7984) rfl rfl <| WL.p rfl rfl rfl (.s 85 rfl (.k .nil)) (q_pickF rfl hb7984) <| WL.p rfl rfl rfl (.s 92 rfl .nil) (q_move rfl) <| WL.skip (Unwanted.on rfl rfl rfl rfl) rfl rfl <| WL.skip (Unwanted.on rfl rfl rfl rfl) rfl rfl <| WL.p rfl rfl rfl (.s 93 rfl (.k .nil)) (q_pickF rfl rfl) <| WL.p rfl rfl rfl (.s 96 rfl .nil) (q_assign rfl) <| WL.nil ?_
        exact QN.weaken (.one rfl (.nil _)) (Kj7983 () false h)
     ·refine W.skip <| QN.then_ <| W.seq <| W.seq <| W.region <| WL.p rfl rfl rfl (.s 15 rfl .nil) (q_move rfl) <| WL.p rfl rfl rfl (.s 97 rfl .nil) (q_len rfl elS46) <| WL.p rfl rfl rfl (.k .nil) (q_move rfl) <| WL.nil <| QN.then_ <| W.block ?_
      refine W.loop1 (Γ := Unit) (fun (_ : Unit) (x99 : Int) => [(17, SlcA kMorphism t7973.1), (97, SlcA kMorphism t7972.1), (98, EqA (.int .i64 (t7972.1.length : Int))), (99, EqA (.int .i64 x99))]) (fun (_ : Unit) (_ : Int) => []) h () (.one rfl (.one rfl (.one rfl (.one rfl (.nil _))))) rfl (fun rec0 K0 next0 _ x99 h => ?_)
      unfold law17_SearchLarger.b0 at h
      refine W.seq <| W.region <| WL.p rfl rfl rfl (.s 99 rfl (.s 98 rfl .nil)) (q_int rfl rfl) <| WL.nil <| QN.then_ <| W.seq ?_
      refine W.condP h rfl (fun hb7999 h => ?_) (fun hb7999 h => ?_)
      ·refine W.skip <| QN.then_ <| W.seq <| W.block <| W.seq <| W.region ?_
       obtain ⟨c8000, h⟩ := ite_n h
       refine WL.p rfl rfl rfl (.s 97 rfl (.s 99 rfl .nil)) (q_index rfl el46 rfl c8000.1 c8000.2) <| WL.p rfl rfl rfl (.s 101 rfl .nil) (q_loadS rfl sh41 (leB rfl) rfl) <| WL.w [] rfl (Wanted.plain rfl) rfl rfl .nil (w_alloc rfl z41 (l := [EqA (.slice none 0 0), EqA (.slice none 0 0)]) rfl) ?_
       rintro _ _ ⟨b8001, rfl, rfl⟩
       refine WL.w0 [0] rfl (Wanted.plain rfl) rfl (.s 20 rfl (.s 102 rfl .nil)) (w_store (L := [SlcA kInt ((rd t7972.1 x99).fNodes), SlcA kInt ((rd t7972.1 x99).fEdges)]) rfl sh41 (CellsOf.agg _) rfl rfl (leB rfl) rfl) ?_
       rintro _ _ ⟨rfl, rfl⟩
       refine WL.nil <| QN.to (StTo.still [0] 20 rfl rfl) <| QN.then_ <| W.seq <| W.region <| WL.p rfl rfl rfl (.s 17 rfl .nil) (q_move rfl) <| WL.p rfl rfl rfl (.s 20 rfl .nil) (q_makeFunc (xs := [.tmp 20]) (L := [PtrA [SlcA kInt ((rd t7972.1 x99).fNodes), SlcA kInt ((rd t7972.1 x99).fEdges)]]) («as» := fun (x : Morphism) => [AggA [SlcA kInt x.fNodes, SlcA kInt x.fEdges]]) (res := fun (y : Bool) => EqA (.bool y)) (p := (fun x => law17_SearchLarger_1 k x (rd t7972.1 x99))) rfl ca10 rfl (fun x y hp => (law17_SearchLarger_1.con k x (rd t7972.1 x99) y hp))) ?_
       obtain ⟨t8002, ht8002, h⟩ := bind_s h
       refine WL.p rfl rfl rfl (.s 103 rfl (.s 104 rfl .nil)) (q_call (f := 9) (A := EqA (.bool t8002)) (xs := [.tmp 103, .tmp 104]) («as» := [SlcA kMorphism t7973.1, FnA Try.prog (fun (x : Morphism) => [AggA [SlcA kInt x.fNodes, SlcA kInt x.fEdges]]) (fun (y : Bool) => EqA (.bool y)) (fun x => law17_SearchLarger_1 k x (rd t7972.1 x99))]) rfl ca9 (slices_ContainsFunc_Morphism.con k t7973.1 (fun x => law17_SearchLarger_1 k x (rd t7972.1 x99)) t8002 ht8002) rfl) <| WL.p rfl rfl rfl (.s 105 rfl .nil) (q_not rfl) <| WL.nil <| QN.weaken (env' := [(106, _), (99, _), (98, _), (97, _), (17, _)]) (.one rfl (.one rfl (.one rfl (.one rfl (.one rfl (.nil _)))))) <| QN.then_ ?_
       refine W.condP h rfl (fun hb8003 h => ?_) (fun hb8003 h => ?_)
       ·refine W.seq <| W.region <| WL.p rfl rfl rfl (.k .nil) (q_assign rfl) <| WL.nil <| QN.then_ <| W.ret <| QR.block <| QR.then_ <| QR.then_ <| QR.block <| QR.then_ ?_
        cases h
        exact QR.f1 rfl rfl (.t rfl) (.id _)
       ·refine W.skip <| QN.block <| QN.then_ <| W.region ?_
        obtain ⟨c8004, h⟩ := ite_n h
        refine WL.p rfl rfl rfl (.s 99 rfl (.k .nil)) (q_addR rfl c8004) <| WL.p rfl rfl rfl (.s 107 rfl .nil) (q_move rfl) <| WL.nil ?_
        exact next0 () (x99 + 1) _ h (.one rfl (.one rfl (.one rfl (.one rfl (.nil _)))))
      ·refine W.exit <| QX.then_ <| QX.then_ <| QX.here <| QN.then_ <| W.seq <| W.region <| WL.p rfl rfl rfl (.k .nil) (q_assign rfl) <| WL.nil <| QN.then_ <| W.ret ?_
       cases h
       exact QR.f1 rfl rfl (.t rfl) (.id _)
    ·refine W.region <| WL.p rfl rfl rfl (.s 14 rfl .nil) (q_move rfl) <| WL.p rfl rfl rfl (.s 73 rfl (.k .nil)) (q_int rfl rfl) <| WL.p rfl rfl rfl (.s 74 rfl .nil) (q_move rfl) ?_
     rcases bif_s h with ⟨hb8005, h⟩ | ⟨hb8005, h⟩
     ·refine WL.skip (Unwanted.on rfl rfl rfl hb8005) rfl rfl <| WL.skip (Unwanted.on rfl rfl rfl hb8005) rfl rfl <| WL.p rfl rfl rfl (.s 75 rfl (.k .nil)) (q_pickT rfl hb8005) <| WL.p rfl rfl rfl (.s 78 rfl .nil) (q_move rfl) <| WL.skip (Unwanted.on rfl rfl rfl rfl) rfl rfl <| WL.skip (Unwanted.on rfl rfl rfl rfl) rfl rfl <| WL.p rfl rfl rfl (.s 79 rfl (.k .nil)) (q_pickT rfl rfl) <| WL.nil ?_
      exact QN.weaken (.one rfl (.one rfl (.one rfl (.one rfl (.one rfl (.one rfl (.nil _))))))) (Kj7977 () true h)
     ·refine WL.q (Wanted.on rfl rfl rfl hb8005) rfl rfl (.s 16 rfl .nil) (q_move rfl).o <| WL.q (Wanted.on rfl rfl rfl hb8005) rfl rfl (.s 76 rfl (.k .nil)) (q_int rfl rfl).o <| WL.p rfl rfl rfl (.s 75 rfl (.s 77 rfl .nil)) (q_pickF rfl hb8005) <| WL.p rfl rfl rfl (.s 78 rfl .nil) (q_move rfl) ?_
      rcases bif_s h with ⟨hb8006, h⟩ | ⟨hb8006, h⟩
      ·refine WL.skip (Unwanted.on rfl rfl rfl hb8006) rfl rfl <| WL.skip (Unwanted.on rfl rfl rfl hb8006) rfl rfl <| WL.p rfl rfl rfl (.s 79 rfl (.k .nil)) (q_pickT rfl hb8006) <| WL.nil ?_
       exact QN.weaken (.one rfl (.one rfl (.one rfl (.one rfl (.one rfl (.one rfl (.nil _))))))) (Kj7977 () true h)
      ·refine WL.q (Wanted.on rfl rfl rfl hb8006) rfl rfl (.s 18 rfl .nil) (q_move rfl).o <| WL.q (Wanted.on rfl rfl rfl hb8006) rfl rfl (.s 80 rfl (.k .nil)) (q_int rfl rfl).o <| WL.p rfl rfl rfl (.s 79 rfl (.s 81 rfl .nil)) (q_pickF rfl hb8006) <| WL.nil ?_
       exact QN.weaken (.one rfl (.one rfl (.one rfl (.one rfl (.one rfl (.one rfl (.nil _))))))) (Kj7977 () (t7973.2 != 0) h)
   ·refine W.drawKT [(0, false), (1, false), (2, false), (3, false), (4, false), (5, false), (6, false), (7, false), (8, false), (9, false)] [10, 11, 12, 13, 14, 15, 16] [10, 11, 12, 16] 7 [[], [], [], [1, 2], [0, 1, 2, 3], [0, 1, 2, 3, 4], [0, 1, 2, 3, 4, 5], [0, 1, 2, 3, 4, 5], [0, 1, 2, 3, 4, 5], [0, 1, 2, 3, 4, 5], [], [], [], [0, 1, 2, 3, 4, 5, 6, 10, 11, 12], [0, 1, 2, 3, 4, 5, 6, 7, 10, 11, 12, 13], [0, 1, 2, 3, 4, 5, 6, 7, 8, 10, 11, 12, 13, 14], [0, 1, 2, 3, 4, 5, 6, 7, 8, 9, 10, 11, 12, 13, 14, 15]] mx (by kernel_rfl) <| DKT.cons rfl rfl (.p rfl (.s 9 rfl .nil) rfl (q_loadS rfl sh36 (leB rfl) rfl)) <| DKT.cons rfl rfl (.p rfl (.s 7 rfl .nil) rfl (q_loadS rfl sh32 (leB rfl) rfl)) <| DKT.cons rfl rfl (.p rfl (.s 4 rfl .nil) rfl (q_loadS rfl sh26 (leB rfl) rfl)) ?_
    obtain ⟨t8007, ht8007, h⟩ := bind_s h
    refine DKT.cons rfl rfl (.p rfl (.s 49 rfl (.s 50 rfl (.k .nil))) rfl (q_call (f := 7) (A := AggA [SlcA kInt t8007.fNodes, SlcA kEdge t8007.fEdges]) (xs := [.tmp 49, .tmp 50, .const (.bool false)]) («as» := [AggA [SlcA kNodeType t7948.1.fNodes, SlcA kEdgeType t7948.1.fEdges], AggA [SlcA kU8 a1.fNodes, SlcA kA3Int a1.fEdges], EqA (.bool false)]) rfl ca7 (ref17_Made.con k t7948.1 a1 false t8007 ht8007) rfl)) ?_
    obtain ⟨t8008, ht8008, h⟩ := bind_s h
    refine DKT.cons rfl rfl (.p rfl (.s 48 rfl (.s 51 rfl .nil)) rfl (q_call (f := 6) (A := TupA [AggA [SlcA kInt t8008.1.fNodes, SlcA kEdge t8008.1.fEdges], AggA [SlcA kInt t8008.2.1.fNodes, SlcA kInt t8008.2.1.fEdges], AggA [SlcA kInt t8008.2.2.1.fNodes, SlcA kInt t8008.2.2.1.fEdges], EqA (.int .i64 t8008.2.2.2)]) (xs := [.tmp 48, .tmp 51]) («as» := [AggA [SlcA kInt t7948.2.2.1.fNodes, SlcA kEdge t7948.2.2.1.fEdges], AggA [SlcA kInt t8007.fNodes, SlcA kEdge t8007.fEdges]]) rfl ca6 (ref05_Union.con k t7948.2.2.1 t8007 t8008 ht8008) rfl)) <| DKT.cons rfl rfl (.p rfl (.s 52 rfl .nil) rfl (q_move rfl)) <| DKT.cons rfl rfl (.p rfl (.s 47 rfl .nil) rfl (q_extract rfl rfl)) <| DKT.cons rfl rfl (.p rfl (.s 47 rfl .nil) rfl (q_extract rfl rfl)) <| DKT.cons rfl rfl (.p rfl (.s 47 rfl .nil) rfl (q_extract rfl rfl)) <| DKT.cons rfl rfl (.p rfl (.s 47 rfl .nil) rfl (q_extract rfl rfl)) <| DKT.nil <| CT.step ?_
    refine CTc.yes rfl ?_ ?_
    ·refine CStep1.w [] (fun _ => rfl) rfl rfl rfl rfl .nil rfl (w_alloc rfl z36 (l := [EqA (.slice none 0 0), EqA (.slice none 0 0)]) rfl) ?_
     rintro _ _ ⟨b8009, rfl, rfl⟩
     refine CT.list (l' := [11, 12, 13, 14, 15, 16]) rfl <| CT.step ?_
     refine CTc.yes rfl ?_ ?_
     ·refine CStep1.w [] (fun _ => rfl) rfl rfl rfl rfl .nil rfl (w_alloc rfl z41 (l := [EqA (.slice none 0 0), EqA (.slice none 0 0)]) rfl) ?_
      rintro _ _ ⟨b8010, rfl, rfl⟩
      refine CT.list (l' := [12, 13, 14, 15, 16]) rfl <| CT.step ?_
      refine CTc.yes rfl ?_ ?_
      ·refine CStep1.w [] (fun _ => rfl) rfl rfl rfl rfl .nil rfl (w_alloc rfl z41 (l := [EqA (.slice none 0 0), EqA (.slice none 0 0)]) rfl) ?_
       rintro _ _ ⟨b8011, rfl, rfl⟩
       refine CT.list (l' := [13, 14, 15, 16]) rfl <| CT.step ?_
       refine CTc.yes rfl ?_ ?_
       ·refine CStep1.w0 [2] (fun h => absurd h (by decide)) rfl rfl rfl (.s 11 rfl (.s 53 rfl .nil)) rfl (w_store (L := [SlcA kInt t8008.1.fNodes, SlcA kEdge t8008.1.fEdges]) rfl sh36 (CellsOf.agg _) rfl rfl (leB rfl) rfl) ?_
        rintro _ _ ⟨rfl, rfl⟩
        refine CT.list (l' := [14, 15, 16]) rfl <| CT.step ?_
        refine CTc.yes rfl ?_ ?_
        ·refine CStep1.w0 [2] (fun h => absurd h (by decide)) rfl rfl rfl (.s 12 rfl (.s 54 rfl .nil)) rfl (w_store (L := [SlcA kInt t8008.2.1.fNodes, SlcA kInt t8008.2.1.fEdges]) rfl sh41 (CellsOf.agg _) rfl rfl (leB rfl) rfl) ?_
         rintro _ _ ⟨rfl, rfl⟩
         refine CT.list (l' := [15, 16]) rfl <| CT.step ?_
         refine CTc.yes rfl ?_ ?_
         ·refine CStep1.w0 [2] (fun h => absurd h (by decide)) rfl rfl rfl (.s 13 rfl (.s 55 rfl .nil)) rfl (w_store (L := [SlcA kInt t8008.2.2.1.fNodes, SlcA kInt t8008.2.2.1.fEdges]) rfl sh41 (CellsOf.agg _) rfl rfl (leB rfl) rfl) ?_
          rintro _ _ ⟨rfl, rfl⟩
          refine CT.list (l' := [16]) rfl <| CT.step ?_
          refine CTc.yes rfl ?_ ?_
          ·refine CStep1.p rfl rfl rfl (.s 56 rfl .nil) rfl (q_assign rfl) <| CT.list (l' := []) rfl <| CT.nil <| QN.to (StTo.still [2] 11 rfl rfl) <| QN.to (StTo.still [1] 12 rfl rfl) <| QN.to (StTo.still [0] 13 rfl rfl) ?_
           exact QN.weaken (.one rfl (.one rfl (.one rfl (.one rfl (.one rfl (.one rfl (.nil _))))))) (Kj7971 () t8008.1.fNodes t8008.1.fEdges t8008.2.2.2 h)
          exact CTc.end
         refine CTc.no rfl ?_
         exact CTc.end
        refine CTc.no rfl <| CTc.no rfl ?_
        exact CTc.end
       refine CTc.no rfl <| CTc.no rfl <| CTc.no rfl ?_
       exact CTc.end
      refine CTc.no rfl <| CTc.no rfl <| CTc.no rfl <| CTc.no rfl ?_
      exact CTc.end
     refine CTc.yes rfl ?_ ?_
     ·refine CStep1.w [] (fun _ => rfl) rfl rfl rfl rfl .nil rfl (w_alloc rfl z41 (l := [EqA (.slice none 0 0), EqA (.slice none 0 0)]) rfl) ?_
      rintro _ _ ⟨b8011, rfl, rfl⟩
      refine CT.list (l' := [11, 13, 14, 15, 16]) rfl <| CT.step ?_
      refine CTc.yes rfl ?_ ?_
      ·refine CStep1.w [] (fun _ => rfl) rfl rfl rfl rfl .nil rfl (w_alloc rfl z41 (l := [EqA (.slice none 0 0), EqA (.slice none 0 0)]) rfl) ?_
       rintro _ _ ⟨b8010, rfl, rfl⟩
       refine CT.list (l' := [13, 14, 15, 16]) rfl <| CT.step ?_
       refine CTc.yes rfl ?_ ?_
       ·refine CStep1.w0 [2] (fun h => absurd h (by decide)) rfl rfl rfl (.s 11 rfl (.s 53 rfl .nil)) rfl (w_store (L := [SlcA kInt t8008.1.fNodes, SlcA kEdge t8008.1.fEdges]) rfl sh36 (CellsOf.agg _) rfl rfl (leB rfl) rfl) ?_
        rintro _ _ ⟨rfl, rfl⟩
        refine CT.list (l' := [14, 15, 16]) rfl <| CT.step ?_
        refine CTc.yes rfl ?_ ?_
        ·refine CStep1.w0 [1] (fun h => absurd h (by decide)) rfl rfl rfl (.s 12 rfl (.s 54 rfl .nil)) rfl (w_store (L := [SlcA kInt t8008.2.1.fNodes, SlcA kInt t8008.2.1.fEdges]) rfl sh41 (CellsOf.agg _) rfl rfl (leB rfl) rfl) ?_
         rintro _ _ ⟨rfl, rfl⟩
         refine CT.list (l' := [15, 16]) rfl <| CT.step ?_
         refine CTc.yes rfl ?_ ?_
         ·refine CStep1.w0 [2] (fun h => absurd h (by decide)) rfl rfl rfl (.s 13 rfl (.s 55 rfl .nil)) rfl (w_store (L := [SlcA kInt t8008.2.2.1.fNodes, SlcA kInt t8008.2.2.1.fEdges]) rfl sh41 (CellsOf.agg _) rfl rfl (leB rfl) rfl) ?_
          rintro _ _ ⟨rfl, rfl⟩
          refine CT.list (l' := [16]) rfl <| CT.step ?_
          refine CTc.yes rfl ?_ ?_
          ·refine CStep1.p rfl rfl rfl (.s 56 rfl .nil) rfl (q_assign rfl) <| CT.list (l' := []) rfl <| CT.nil <| QN.to (StTo.still [2] 11 rfl rfl) <| QN.to (StTo.still [1] 12 rfl rfl) <| QN.to (StTo.still [0] 13 rfl rfl) ?_
           exact QN.weaken (.one rfl (.one rfl (.one rfl (.one rfl (.one rfl (.one rfl (.nil _))))))) (Kj7971 () t8008.1.fNodes t8008.1.fEdges t8008.2.2.2 h)
          exact CTc.end
         refine CTc.no rfl ?_
         exact CTc.end
        refine CTc.no rfl <| CTc.no rfl ?_
        exact CTc.end
       refine CTc.no rfl <| CTc.no rfl <| CTc.no rfl ?_
       exact CTc.end
      refine CTc.no rfl <| CTc.no rfl <| CTc.no rfl <| CTc.no rfl ?_
      exact CTc.end
     refine CTc.no rfl <| CTc.no rfl <| CTc.no rfl <| CTc.no rfl ?_
     exact CTc.end
    refine CTc.yes rfl ?_ ?_
    ·refine CStep1.w [] (fun _ => rfl) rfl rfl rfl rfl .nil rfl (w_alloc rfl z41 (l := [EqA (.slice none 0 0), EqA (.slice none 0 0)]) rfl) ?_
     rintro _ _ ⟨b8010, rfl, rfl⟩
     refine CT.list (l' := [10, 12, 13, 14, 15, 16]) rfl <| CT.step ?_
     refine CTc.yes rfl ?_ ?_
     ·refine CStep1.w [] (fun _ => rfl) rfl rfl rfl rfl .nil rfl (w_alloc rfl z36 (l := [EqA (.slice none 0 0), EqA (.slice none 0 0)]) rfl) ?_
      rintro _ _ ⟨b8009, rfl, rfl⟩
      refine CT.list (l' := [12, 13, 14, 15, 16]) rfl <| CT.step ?_
      refine CTc.yes rfl ?_ ?_
      ·refine CStep1.w [] (fun _ => rfl) rfl rfl rfl rfl .nil rfl (w_alloc rfl z41 (l := [EqA (.slice none 0 0), EqA (.slice none 0 0)]) rfl) ?_
       rintro _ _ ⟨b8011, rfl, rfl⟩
       refine CT.list (l' := [13, 14, 15, 16]) rfl <| CT.step ?_
       refine CTc.yes rfl ?_ ?_
       ·refine CStep1.w0 [1] (fun h => absurd h (by decide)) rfl rfl rfl (.s 11 rfl (.s 53 rfl .nil)) rfl (w_store (L := [SlcA kInt t8008.1.fNodes, SlcA kEdge t8008.1.fEdges]) rfl sh36 (CellsOf.agg _) rfl rfl (leB rfl) rfl) ?_
        rintro _ _ ⟨rfl, rfl⟩
        refine CT.list (l' := [14, 15, 16]) rfl <| CT.step ?_
        refine CTc.yes rfl ?_ ?_
        ·refine CStep1.w0 [2] (fun h => absurd h (by decide)) rfl rfl rfl (.s 12 rfl (.s 54 rfl .nil)) rfl (w_store (L := [SlcA kInt t8008.2.1.fNodes, SlcA kInt t8008.2.1.fEdges]) rfl sh41 (CellsOf.agg _) rfl rfl (leB rfl) rfl) ?_
         rintro _ _ ⟨rfl, rfl⟩
         refine CT.list (l' := [15, 16]) rfl <| CT.step ?_
         refine CTc.yes rfl ?_ ?_
         ·refine CStep1.w0 [2] (fun h => absurd h (by decide)) rfl rfl rfl (.s 13 rfl (.s 55 rfl .nil)) rfl (w_store (L := [SlcA kInt t8008.2.2.1.fNodes, SlcA kInt t8008.2.2.1.fEdges]) rfl sh41 (CellsOf.agg _) rfl rfl (leB rfl) rfl) ?_
          rintro _ _ ⟨rfl, rfl⟩
          refine CT.list (l' := [16]) rfl <| CT.step ?_
          refine CTc.yes rfl ?_ ?_
          ·refine CStep1.p rfl rfl rfl (.s 56 rfl .nil) rfl (q_assign rfl) <| CT.list (l' := []) rfl <| CT.nil <| QN.to (StTo.still [2] 11 rfl rfl) <| QN.to (StTo.still [1] 12 rfl rfl) <| QN.to (StTo.still [0] 13 rfl rfl) ?_
           exact QN.weaken (.one rfl (.one rfl (.one rfl (.one rfl (.one rfl (.one rfl (.nil _))))))) (Kj7971 () t8008.1.fNodes t8008.1.fEdges t8008.2.2.2 h)
          exact CTc.end
         refine CTc.no rfl ?_
         exact CTc.end
        refine CTc.no rfl <| CTc.no rfl ?_
        exact CTc.end
       refine CTc.no rfl <| CTc.no rfl <| CTc.no rfl ?_
       exact CTc.end
      refine CTc.no rfl <| CTc.no rfl <| CTc.no rfl <| CTc.no rfl ?_
      exact CTc.end
     refine CTc.yes rfl ?_ ?_
     ·refine CStep1.w [] (fun _ => rfl) rfl rfl rfl rfl .nil rfl (w_alloc rfl z41 (l := [EqA (.slice none 0 0), EqA (.slice none 0 0)]) rfl) ?_
      rintro _ _ ⟨b8011, rfl, rfl⟩
      refine CT.list (l' := [10, 13, 14, 15, 16]) rfl <| CT.step ?_
      refine CTc.yes rfl ?_ ?_
      ·refine CStep1.w [] (fun _ => rfl) rfl rfl rfl rfl .nil rfl (w_alloc rfl z36 (l := [EqA (.slice none 0 0), EqA (.slice none 0 0)]) rfl) ?_
       rintro _ _ ⟨b8009, rfl, rfl⟩
       refine CT.list (l' := [13, 14, 15, 16]) rfl <| CT.step ?_
       refine CTc.yes rfl ?_ ?_
       ·refine CStep1.w0 [0] (fun h => absurd h (by decide)) rfl rfl rfl (.s 11 rfl (.s 53 rfl .nil)) rfl (w_store (L := [SlcA kInt t8008.1.fNodes, SlcA kEdge t8008.1.fEdges]) rfl sh36 (CellsOf.agg _) rfl rfl (leB rfl) rfl) ?_
        rintro _ _ ⟨rfl, rfl⟩
        refine CT.list (l' := [14, 15, 16]) rfl <| CT.step ?_
        refine CTc.yes rfl ?_ ?_
        ·refine CStep1.w0 [2] (fun h => absurd h (by decide)) rfl rfl rfl (.s 12 rfl (.s 54 rfl .nil)) rfl (w_store (L := [SlcA kInt t8008.2.1.fNodes, SlcA kInt t8008.2.1.fEdges]) rfl sh41 (CellsOf.agg _) rfl rfl (leB rfl) rfl) ?_
         rintro _ _ ⟨rfl, rfl⟩
         refine CT.list (l' := [15, 16]) rfl <| CT.step ?_
         refine CTc.yes rfl ?_ ?_
         ·refine CStep1.w0 [2] (fun h => absurd h (by decide)) rfl rfl rfl (.s 13 rfl (.s 55 rfl .nil)) rfl (w_store (L := [SlcA kInt t8008.2.2.1.fNodes, SlcA kInt t8008.2.2.1.fEdges]) rfl sh41 (CellsOf.agg _) rfl rfl (leB rfl) rfl) ?_
          rintro _ _ ⟨rfl, rfl⟩
          refine CT.list (l' := [16]) rfl <| CT.step ?_
          refine CTc.yes rfl ?_ ?_
          ·refine CStep1.p rfl rfl rfl (.s 56 rfl .nil) rfl (q_assign rfl) <| CT.list (l' := []) rfl <| CT.nil <| QN.to (StTo.still [2] 11 rfl rfl) <| QN.to (StTo.still [1] 12 rfl rfl) <| QN.to (StTo.still [0] 13 rfl rfl) ?_
           exact QN.weaken (.one rfl (.one rfl (.one rfl (.one rfl (.one rfl (.one rfl (.nil _))))))) (Kj7971 () t8008.1.fNodes t8008.1.fEdges t8008.2.2.2 h)
          exact CTc.end
         refine CTc.no rfl ?_
         exact CTc.end
        refine CTc.no rfl <| CTc.no rfl ?_
        exact CTc.end
       refine CTc.no rfl <| CTc.no rfl <| CTc.no rfl ?_
       exact CTc.end
      refine CTc.no rfl <| CTc.no rfl <| CTc.no rfl <| CTc.no rfl ?_
      exact CTc.end
     refine CTc.no rfl <| CTc.no rfl <| CTc.no rfl <| CTc.no rfl ?_
     exact CTc.end
    refine CTc.yes rfl ?_ ?_
    ·refine CStep1.w [] (fun _ => rfl) rfl rfl rfl rfl .nil rfl (w_alloc rfl z41 (l := [EqA (.slice none 0 0), EqA (.slice none 0 0)]) rfl) ?_
     rintro _ _ ⟨b8011, rfl, rfl⟩
     refine CT.list (l' := [10, 11, 13, 14, 15, 16]) rfl <| CT.step ?_
     refine CTc.yes rfl ?_ ?_
     ·refine CStep1.w [] (fun _ => rfl) rfl rfl rfl rfl .nil rfl (w_alloc rfl z36 (l := [EqA (.slice none 0 0), EqA (.slice none 0 0)]) rfl) ?_
      rintro _ _ ⟨b8009, rfl, rfl⟩
      refine CT.list (l' := [11, 13, 14, 15, 16]) rfl <| CT.step ?_
      refine CTc.yes rfl ?_ ?_
      ·refine CStep1.w [] (fun _ => rfl) rfl rfl rfl rfl .nil rfl (w_alloc rfl z41 (l := [EqA (.slice none 0 0), EqA (.slice none 0 0)]) rfl) ?_
       rintro _ _ ⟨b8010, rfl, rfl⟩
       refine CT.list (l' := [13, 14, 15, 16]) rfl <| CT.step ?_
       refine CTc.yes rfl ?_ ?_
       ·refine CStep1.w0 [1] (fun h => absurd h (by decide)) rfl rfl rfl (.s 11 rfl (.s 53 rfl .nil)) rfl (w_store (L := [SlcA kInt t8008.1.fNodes, SlcA kEdge t8008.1.fEdges]) rfl sh36 (CellsOf.agg _) rfl rfl (leB rfl) rfl) ?_
        rintro _ _ ⟨rfl, rfl⟩
        refine CT.list (l' := [14, 15, 16]) rfl <| CT.step ?_
        refine CTc.yes rfl ?_ ?_
        ·refine CStep1.w0 [1] (fun h => absurd h (by decide)) rfl rfl rfl (.s 12 rfl (.s 54 rfl .nil)) rfl (w_store (L := [SlcA kInt t8008.2.1.fNodes, SlcA kInt t8008.2.1.fEdges]) rfl sh41 (CellsOf.agg _) rfl rfl (leB rfl) rfl) ?_
         rintro _ _ ⟨rfl, rfl⟩
         refine CT.list (l' := [15, 16]) rfl <| CT.step ?_
         refine CTc.yes rfl ?_ ?_
         ·refine CStep1.w0 [2] (fun h => absurd h (by decide)) rfl rfl rfl (.s 13 rfl (.s 55 rfl .nil)) rfl (w_store (L := [SlcA kInt t8008.2.2.1.fNodes, SlcA kInt t8008.2.2.1.fEdges]) rfl sh41 (CellsOf.agg _) rfl rfl (leB rfl) rfl) ?_
          rintro _ _ ⟨rfl, rfl⟩
          refine CT.list (l' := [16]) rfl <| CT.step ?_
          refine CTc.yes rfl ?_ ?_
          ·refine CStep1.p rfl rfl rfl (.s 56 rfl .nil) rfl (q_assign rfl) <| CT.list (l' := []) rfl <| CT.nil <| QN.to (StTo.still [2] 11 rfl rfl) <| QN.to (StTo.still [1] 12 rfl rfl) <| QN.to (StTo.still [0] 13 rfl rfl) ?_
           exact QN.weaken (.one rfl (.one rfl (.one rfl (.one rfl (.one rfl (.one rfl (.nil _))))))) (Kj7971 () t8008.1.fNodes t8008.1.fEdges t8008.2.2.2 h)
          exact CTc.end
         refine CTc.no rfl ?_
         exact CTc.end
        refine CTc.no rfl <| CTc.no rfl ?_
        exact CTc.end
       refine CTc.no rfl <| CTc.no rfl <| CTc.no rfl ?_
       exact CTc.end
      refine CTc.no rfl <| CTc.no rfl <| CTc.no rfl <| CTc.no rfl ?_
      exact CTc.end
     refine CTc.yes rfl ?_ ?_
     ·refine CStep1.w [] (fun _ => rfl) rfl rfl rfl rfl .nil rfl (w_alloc rfl z41 (l := [EqA (.slice none 0 0), EqA (.slice none 0 0)]) rfl) ?_
      rintro _ _ ⟨b8010, rfl, rfl⟩
      refine CT.list (l' := [10, 13, 14, 15, 16]) rfl <| CT.step ?_
      refine CTc.yes rfl ?_ ?_
      ·refine CStep1.w [] (fun _ => rfl) rfl rfl rfl rfl .nil rfl (w_alloc rfl z36 (l := [EqA (.slice none 0 0), EqA (.slice none 0 0)]) rfl) ?_
       rintro _ _ ⟨b8009, rfl, rfl⟩
       refine CT.list (l' := [13, 14, 15, 16]) rfl <| CT.step ?_
       refine CTc.yes rfl ?_ ?_
       ·refine CStep1.w0 [0] (fun h => absurd h (by decide)) rfl rfl rfl (.s 11 rfl (.s 53 rfl .nil)) rfl (w_store (L := [SlcA kInt t8008.1.fNodes, SlcA kEdge t8008.1.fEdges]) rfl sh36 (CellsOf.agg _) rfl rfl (leB rfl) rfl) ?_
        rintro _ _ ⟨rfl, rfl⟩
        refine CT.list (l' := [14, 15, 16]) rfl <| CT.step ?_
        refine CTc.yes rfl ?_ ?_
        ·refine CStep1.w0 [1] (fun h => absurd h (by decide)) rfl rfl rfl (.s 12 rfl (.s 54 rfl .nil)) rfl (w_store (L := [SlcA kInt t8008.2.1.fNodes, SlcA kInt t8008.2.1.fEdges]) rfl sh41 (CellsOf.agg _) rfl rfl (leB rfl) rfl) ?_
         rintro _ _ ⟨rfl, rfl⟩
         refine CT.list (l' := [15, 16]) rfl <| CT.step ?_
         refine CTc.yes rfl ?_ ?_
         ·refine CStep1.w0 [2] (fun h => absurd h (by decide)) rfl rfl rfl (.s 13 rfl (.s 55 rfl .nil)) rfl (w_store (L := [SlcA kInt t8008.2.2.1.fNodes, SlcA kInt t8008.2.2.1.fEdges]) rfl sh41 (CellsOf.agg _) rfl rfl (leB rfl) rfl) ?_
          rintro _ _ ⟨rfl, rfl⟩
          refine CT.list (l' := [16]) rfl <| CT.step ?_
          refine CTc.yes rfl ?_ ?_
          ·refine CStep1.p rfl rfl rfl (.s 56 rfl .nil) rfl (q_assign rfl) <| CT.list (l' := []) rfl <| CT.nil <| QN.to (StTo.still [2] 11 rfl rfl) <| QN.to (StTo.still [1] 12 rfl rfl) <| QN.to (StTo.still [0] 13 rfl rfl) ?_
           exact QN.weaken (.one rfl (.one rfl (.one rfl (.one rfl (.one rfl (.one rfl (.nil _))))))) (Kj7971 () t8008.1.fNodes t8008.1.fEdges t8008.2.2.2 h)
          exact CTc.end
         refine CTc.no rfl ?_
         exact CTc.end
        refine CTc.no rfl <| CTc.no rfl ?_
        exact CTc.end
       refine CTc.no rfl <| CTc.no rfl <| CTc.no rfl ?_
       exact CTc.end
      refine CTc.no rfl <| CTc.no rfl <| CTc.no rfl <| CTc.no rfl ?_
      exact CTc.end
     refine CTc.no rfl <| CTc.no rfl <| CTc.no rfl <| CTc.no rfl ?_
     exact CTc.end
    refine CTc.no rfl <| CTc.no rfl <| CTc.no rfl <| CTc.no rfl ?_
    exact CTc.end
 ·refine W.region ?_
  obtain ⟨t8012, ht8012, h⟩ := bind_s h
  refine WL.p rfl rfl rfl .nil (q_call (f := 5) (A := EqA (.bool t8012)) (xs := []) («as» := []) rfl ca5 (law17_awake.con k  t8012 ht8012) rfl) <| WL.p rfl rfl rfl (.s 28 rfl .nil) (q_not rfl) <| WL.p rfl rfl rfl (.s 29 rfl .nil) (q_move rfl) ?_
  rcases bif_s h with ⟨hb8013, h⟩ | ⟨hb8013, h⟩
  ·refine WL.skip (Unwanted.on rfl rfl rfl hb8013) rfl rfl <| WL.skip (Unwanted.on rfl rfl rfl hb8013) rfl rfl <| WL.p rfl rfl rfl (.s 30 rfl (.k .nil)) (q_pickT rfl hb8013) <| WL.p rfl rfl rfl (.s 33 rfl .nil) (q_move rfl) <| WL.skip (Unwanted.on rfl rfl rfl rfl) rfl rfl <| WL.skip (Unwanted.on rfl rfl rfl rfl) rfl rfl <| WL.skip (Unwanted.on rfl rfl rfl rfl) rfl rfl <| WL.skip (Unwanted.on rfl rfl rfl rfl) rfl rfl <| WL.p rfl rfl rfl (.s 34 rfl (.k .nil)) (q_pickT rfl rfl) <| WL.p rfl rfl rfl (.s 39 rfl .nil) (q_move rfl) <| WL.skip (Unwanted.on rfl rfl rfl rfl) rfl rfl <| WL.skip (Unwanted.on rfl rfl rfl rfl) rfl rfl <| WL.skip (Unwanted.on rfl rfl rfl rfl) rfl rfl ?_
   refine WL.skip (Unwanted.on rfl rfl rfl rfl) rfl rfl <| WL.p rfl rfl rfl (.s 40 rfl (.k .nil)) (q_pickT rfl rfl) <| WL.nil ?_
   exact QN.weaken (.one rfl (.one rfl (.one rfl (.one rfl (.one rfl (.one rfl (.nil _))))))) (Kj7957 () true h)
  ·refine WL.q (Wanted.on rfl rfl rfl hb8013) rfl rfl (.s 10 rfl .nil) (q_move rfl).o <| WL.q (Wanted.on rfl rfl rfl hb8013) rfl rfl (.s 31 rfl .nil) (q_not rfl).o <| WL.p rfl rfl rfl (.s 30 rfl (.s 32 rfl .nil)) (q_pickF rfl hb8013) <| WL.p rfl rfl rfl (.s 33 rfl .nil) (q_move rfl) ?_
   rcases bif_s h with ⟨hb8014, h⟩ | ⟨hb8014, h⟩
   ·refine WL.skip (Unwanted.on rfl rfl rfl hb8014) rfl rfl <| WL.skip (Unwanted.on rfl rfl rfl hb8014) rfl rfl <| WL.skip (Unwanted.on rfl rfl rfl hb8014) rfl rfl <| WL.skip (Unwanted.on rfl rfl rfl hb8014) rfl rfl <| WL.p rfl rfl rfl (.s 34 rfl (.k .nil)) (q_pickT rfl hb8014) <| WL.p rfl rfl rfl (.s 39 rfl .nil) (q_move rfl) <| WL.skip (Unwanted.on rfl rfl rfl rfl) rfl rfl <| WL.skip (Unwanted.on rfl rfl rfl rfl) rfl rfl <| WL.skip (Unwanted.on rfl rfl rfl rfl) rfl rfl <| WL.skip (Unwanted.on rfl rfl rfl rfl) rfl rfl <| WL.p rfl rfl rfl (.s 40 rfl (.k .nil)) (q_pickT rfl rfl) <| WL.nil ?_
    exact QN.weaken (.one rfl (.one rfl (.one rfl (.one rfl (.one rfl (.one rfl (.nil _))))))) (Kj7957 () true h)
   ·refine WL.q (Wanted.on rfl rfl rfl hb8014) rfl rfl (.s 4 rfl .nil) (q_field rfl fo26_0 rfl).o <| WL.q (Wanted.on rfl rfl rfl hb8014) rfl rfl (.s 35 rfl .nil) (q_load rfl sh23).o <| WL.q (Wanted.on rfl rfl rfl hb8014) rfl rfl (.s 36 rfl .nil) (q_len rfl elS23).o <| WL.q (Wanted.on rfl rfl rfl hb8014) rfl rfl (.s 37 rfl (.k .nil)) (q_int rfl rfl).o <| WL.p rfl rfl rfl (.s 34 rfl (.s 38 rfl .nil)) (q_pickF rfl hb8014) <| WL.p rfl rfl rfl (.s 39 rfl .nil) (q_move rfl) ?_
    rcases bif_s h with ⟨hb8015, h⟩ | ⟨hb8015, h⟩
    ·refine WL.skip (Unwanted.on rfl rfl rfl hb8015) rfl rfl <| WL.skip (Unwanted.on rfl rfl rfl hb8015) rfl rfl <| WL.skip (Unwanted.on rfl rfl rfl hb8015) rfl rfl <| WL.skip (Unwanted.on rfl rfl rfl hb8015) rfl rfl <| WL.p rfl rfl rfl (.s 40 rfl (.k .nil)) (q_pickT rfl hb8015) <| WL.nil ?_
     exact QN.weaken (.one rfl (.one rfl (.one rfl (.one rfl (.one rfl (.one rfl (.nil _))))))) (Kj7957 () true h)
    ·refine WL.q (Wanted.on rfl rfl rfl hb8015) rfl rfl (.s 4 rfl .nil) (q_field rfl fo26_1 rfl).o <| WL.q (Wanted.on rfl rfl rfl hb8015) rfl rfl (.s 41 rfl .nil) (q_load rfl sh24).o <| WL.q (Wanted.on rfl rfl rfl hb8015) rfl rfl (.s 42 rfl .nil) (q_len rfl elS24).o <| WL.q (Wanted.on rfl rfl rfl hb8015) rfl rfl (.s 43 rfl (.k .nil)) (q_int rfl rfl).o <| WL.p rfl rfl rfl (.s 40 rfl (.s 44 rfl .nil)) (q_pickF rfl hb8015) <| WL.nil ?_
     exact QN.weaken (.one rfl (.one rfl (.one rfl (.one rfl (.one rfl (.one rfl (.nil _))))))) (Kj7957 () (decide ((a1.fEdges.length : Int) > 3)) h)
end Go.Proofs.Ytelpgjfojhcjcaa
